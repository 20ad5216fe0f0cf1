
import Derived.Test.YthhemephaabblaaGreatDoorZDc
import Derived.Test.YthhemephaabblaaGreatDoorZDd
namespace Go.Proofs.YthhemephaabblaaGreatDoor.Hq
open Go.RowKit Go.Proofs.YthhemephaabblaaGreatDoorW.PrintWords Go.Proofs.YthhemephaabblaaGreatDoorW.PrintLast Go.Proofs.YthhemephaabblaaGreatDoorW.PrintMore Go.Proofs.YthhemephaabblaaGreatDoor Go.Proofs.YthhemephaabblaaGreatDoor.Q
set_option linter.unusedVariables false
set_option linter.unusedSimpArgs false
def stepF (k : Nat) (s : List UInt8) (en : Nat) (s0_2 : Int) (s0_3 : ByteArray) (s0_4 : Int) (s0_5 : Value) (s0_6 : ByteArray) (s0_7 : Value) (s0_8 : ByteArray) (s0_9 : Bool) (s0_10 : Int) : Option (ByteArray × Int × Int × ByteArray × Int × ByteArray × ByteArray × Bool × Int) :=
 match s[runEnd isSp s en]? with
 | none => some (strB s, (runEnd isSp s en : Nat), 0, ⟨#[]⟩, (runEnd isSp s en : Nat), s0_6, s0_8, s0_9, s0_10)
 | some c =>
  if isSm c = true then some (strB s, (runEnd isWd s (runEnd isSp s en) : Nat), 2, strB ((s.drop (runEnd isSp s en)).takeWhile isWd), (runEnd isSp s en : Nat), s0_6, s0_8, s0_9, s0_10)
  else if isDg c = true then some (strB s, (runEnd isDg s (runEnd isSp s en) : Nat), 3, strB ((s.drop (runEnd isSp s en)).takeWhile isDg), (runEnd isSp s en : Nat), s0_6, s0_8, s0_9, s0_10)
  else if c = 34 then query_reader_quoted.f k (strB s) en s0_2 s0_3 s0_4 s0_5 s0_6 s0_7 s0_8 s0_9 s0_10 (runEnd isSp s en : Nat)
  else query_reader_signed.f k (strB s) en s0_2 s0_3 s0_4 s0_5 s0_6 s0_7 s0_8 s0_9 s0_10 (runEnd isSp s en : Nat)
theorem strB_run (p : UInt8 → Bool) (s : List UInt8) (a : Nat) : (strB s).extract a (runEnd p s a) = strB ((s.drop a).takeWhile p) := by
 apply ByteArray.ext
 rw [ByteArray.data_extract]
 show s.toArray.extract a (runEnd p s a) = ((s.drop a).takeWhile p).toArray
 rw [List.extract_toArray]
 congr 1
 rw [List.extract_eq_take_drop]
 unfold runEnd
 rw [Nat.add_sub_cancel_left]
 exact (List.prefix_iff_eq_take.1 (List.takeWhile_prefix p)).symm
set_option maxRecDepth 100000 in
set_option maxHeartbeats 3200000 in
theorem step_calls (k : Nat) (g : Nat) (s : List UInt8) (en : Nat) (s0_2 : Int) (s0_3 : ByteArray) (s0_4 : Int) (s0_5 : Value) (s0_6 : ByteArray) (s0_7 : Value) (s0_8 : ByteArray) (s0_9 : Bool) (s0_10 : Int) (r1 : ByteArray) (r2 : Int) (r3 : Int) (r4 : ByteArray) (r5 : Int) (r6 : ByteArray) (r7 : ByteArray) (r8 : Bool) (r9 : Int) (w0 w : World) (hI : IsS60 w0 w g (strB s) en s0_2 s0_3 s0_4 s0_5 s0_6 s0_7 s0_8 s0_9 s0_10) (hB : Below w0.heap.size w0 w) (hen : en ≤ s.length) (hs : s.length ≤ 1000000000000)
  (h : stepF k s en s0_2 s0_3 s0_4 s0_5 s0_6 s0_7 s0_8 s0_9 s0_10 = some (r1, r2, r3, r4, r5, r6, r7, r8, r9)) :
  Calls Tryz.prog 44 #[.pointer (some ⟨g, 0, none⟩)] w fun e w' => e = .returned (.tuple #[]) ∧ IsS60 w0 w' g r1 r2 r3 r4 r5 s0_5 r6 s0_7 r7 r8 r9 ∧ Below w0.heap.size w0 w' ∧ KeepBut w w' g none := by
 obtain ⟨HG, hg⟩ := hI
 have k0 := cellS60_0 HG
 have k1 := cellS60_1 HG
 have hsz := strB_size s
 obtain ⟨a, ha⟩ : ∃ a, a = runEnd isSp s en := ⟨_, rfl⟩
 have hal : a ≤ s.length := by rw [ha]; exact runEnd_le _ _ _ hen
 have r63 := run63 g s en w k0 hen hs
 rw [← ha] at r63
 unfold stepF at h
 rw [← ha] at h
 have H := Aside0.mk h
 clear h ha
 by_cases hl : a = s.length
 ·
  subst hl
  have hn : s[s.length]? = none := List.getElem?_eq_none (by omega)
  have h := H.out
  rw [hn] at h
  simp only [Option.some.injEq, Prod.mk.injEq] at h
  obtain ⟨rfl, rfl, rfl, rfl, rfl, rfl, rfl, rfl, rfl⟩ := h
  have hb : ((s.length : Int) == (s.length : Int)) = true := by simp
  clear H hn
  go_enter Tryz.func44, Tryz.ntmps44
  go_wp2_with (go_at_call 62; refine r63.mono ?_; rintro e w1 ⟨rfl, hE1⟩; have HG1 := (hE1.block g (blk_lt HG)).trans HG; have hI1 : IsS60 w0 w1 g (strB s) en s0_2 s0_3 s0_4 s0_5 s0_6 s0_7 s0_8 s0_9 s0_10 := ⟨HG1, hg⟩; have hB1 := below_step hB hE1; have hK1 : KeepBut w w1 g none := KeepBut.of_below hE1 g none; have m0 := cellS60_0 HG1; have m1 := cellS60_1 HG1; have m2 := cellS60_2 HG1; have m3 := cellS60_3 HG1; have m4 := cellS60_4 HG1; have f1 := blk_frozen HG1 1; have f2 := blk_frozen HG1 2; have f3 := blk_frozen HG1 3; have f4 := blk_frozen HG1 4)
  first | go_end0 | refine bodyPost_ret (results_none rfl _ _ _) rfl ?_
  exact ⟨rfl, (((hI1.set_1 _).set_2 _).set_3 _).set_4 _, ((((hB1.setCell (p := ⟨g, 1, none⟩) hg _).setCell (p := ⟨g, 2, none⟩) hg _).setCell (p := ⟨g, 3, none⟩) hg _).setCell (p := ⟨g, 4, none⟩) hg _), (((hK1.set_ 1 _).set_ 2 _).set_ 3 _).set_ 4 _⟩
 ·
  have hlt : a < s.length := by omega
  have hb : ((a : Int) == (s.length : Int)) = false := by simp; omega
  obtain ⟨ch, hch⟩ : ∃ c, c = s[a] := ⟨_, rfl⟩
  have hsm : s[a]? = some ch := by rw [hch]; exact List.getElem?_eq_getElem hlt
  have hidx : ∀ h : a < (strB s).size, ((strB s)[a]'h).toNat = ch.toNat := fun h => by rw [hch]; rfl
  have b1 : (0 : Int) ≤ (a : Int) ∧ (a : Int) < s.length := by omega
  have c1 := fun W => sm_calls ch W
  have c2 := fun W => dg_calls ch W
  have h := H.out
  rw [hsm] at h
  simp only [] at h
  clear H hch
  by_cases hq : isSm ch = true
  ·
   rw [if_pos hq] at h
   simp only [Option.some.injEq, Prod.mk.injEq] at h
   obtain ⟨rfl, rfl, rfl, rfl, rfl, rfl, rfl, rfl, rfl⟩ := h
   rw [hq] at c1
   go_enter Tryz.func44, Tryz.ntmps44
   go_wp2_with (first | (go_at_call 62; (with_reducible refine r63.mono ?_); rintro e w1 ⟨rfl, hE1⟩; have HG1 := (hE1.block g (blk_lt HG)).trans HG; have hI1 : IsS60 w0 w1 g (strB s) en s0_2 s0_3 s0_4 s0_5 s0_6 s0_7 s0_8 s0_9 s0_10 := ⟨HG1, hg⟩; have hB1 := below_step hB hE1; have hK1 : KeepBut w w1 g none := KeepBut.of_below hE1 g none; have m0 := cellS60_0 HG1; have m1 := cellS60_1 HG1; have m2 := cellS60_2 HG1; have m3 := cellS60_3 HG1; have m4 := cellS60_4 HG1; have f1 := blk_frozen HG1 1; have f2 := blk_frozen HG1 2; have f3 := blk_frozen HG1 3; have f4 := blk_frozen HG1 4) | (go_at_call 64; refine (c1 _).mono ?_; rintro e w2 ⟨rfl, hE2⟩; have HG2 := (hE2.block g (blk_lt HG1)).trans HG1; have hI2 : IsS60 w0 w2 g (strB s) en s0_2 s0_3 s0_4 s0_5 s0_6 s0_7 s0_8 s0_9 s0_10 := ⟨HG2, hg⟩; have hB2 := below_step hB1 hE2; have hK2 : KeepBut w w2 g none := hK1.trans (KeepBut.of_below hE2 g none) (.inl rfl); have n0 := cellS60_0 HG2; have n1 := cellS60_1 HG2; have n2 := cellS60_2 HG2; have n3 := cellS60_3 HG2; have n4 := cellS60_4 HG2; have e1 := blk_frozen HG2 1; have e2 := blk_frozen HG2 2; have e3 := blk_frozen HG2 3; have e4 := blk_frozen HG2 4) | (go_at_call 62; (with_reducible refine (run65 g s a _ n0 hal hs).mono ?_); rintro e w3 ⟨rfl, hE3⟩; have HG3 := (hE3.block g (blk_lt HG2)).trans HG2; have hI3 : IsS60 w0 w3 g (strB s) en s0_2 s0_3 s0_4 s0_5 s0_6 s0_7 s0_8 s0_9 s0_10 := ⟨HG3, hg⟩; have hB3 := below_step hB2 hE3; have hK3 : KeepBut w w3 g none := hK2.trans (KeepBut.of_below hE3 g none) (.inl rfl); have p0 := cellS60_0 HG3; have p1 := cellS60_1 HG3; have p2 := cellS60_2 HG3; have p3 := cellS60_3 HG3; have p4 := cellS60_4 HG3; have q1 := blk_frozen HG3 1; have q2 := blk_frozen HG3 2; have q3 := blk_frozen HG3 3; have q4 := blk_frozen HG3 4))
   have hI4 := hI3.set_1 ((runEnd isWd s a : Nat) : Int)
   obtain ⟨HG4, hg4⟩ := hI4
   have o0 := cellS60_0 HG4
   have o1 := cellS60_1 HG4
   have o2 := cellS60_2 HG4
   have o3 := cellS60_3 HG4
   have o4 := cellS60_4 HG4
   have x2 := blk_frozen HG4 2
   have x3 := blk_frozen HG4 3
   have x4 := blk_frozen HG4 4
   have hle := runEnd_le isWd s a hal
   have hge : a ≤ runEnd isWd s a := by unfold runEnd; omega
   have b2 : (0 : Int) ≤ (a : Int) ∧ (a : Int) ≤ (runEnd isWd s a : Int) ∧ (runEnd isWd s a : Int) ≤ s.length := by omega
   go_region_with (fail)
   all_goals rw [strB_run]
   all_goals go_end0
   all_goals exact ⟨rfl, (((hI3.set_1 _).set_2 _).set_3 _).set_4 _, below_drew ((((hB3.setCell (p := ⟨g, 1, none⟩) hg _).setCell (p := ⟨g, 2, none⟩) hg _).setCell (p := ⟨g, 3, none⟩) hg _).setCell (p := ⟨g, 4, none⟩) hg _), (((hK3.set_ 1 _).set_ 2 _).set_ 3 _).set_ 4 _⟩
  ·
   rw [if_neg hq] at h
   by_cases hd : isDg ch = true
   ·
    rw [if_pos hd] at h
    simp only [Option.some.injEq, Prod.mk.injEq] at h
    obtain ⟨rfl, rfl, rfl, rfl, rfl, rfl, rfl, rfl, rfl⟩ := h
    rw [Bool.eq_false_iff.2 hq] at c1
    rw [hd] at c2
    go_enter Tryz.func44, Tryz.ntmps44
    go_wp2_with (first | (go_at_call 62; (with_reducible refine r63.mono ?_); rintro e w1 ⟨rfl, hE1⟩; have HG1 := (hE1.block g (blk_lt HG)).trans HG; have hI1 : IsS60 w0 w1 g (strB s) en s0_2 s0_3 s0_4 s0_5 s0_6 s0_7 s0_8 s0_9 s0_10 := ⟨HG1, hg⟩; have hB1 := below_step hB hE1; have hK1 : KeepBut w w1 g none := KeepBut.of_below hE1 g none; have m0 := cellS60_0 HG1; have m1 := cellS60_1 HG1; have m2 := cellS60_2 HG1; have m3 := cellS60_3 HG1; have m4 := cellS60_4 HG1; have f1 := blk_frozen HG1 1; have f2 := blk_frozen HG1 2; have f3 := blk_frozen HG1 3; have f4 := blk_frozen HG1 4) | (go_at_call 64; refine (c1 _).mono ?_; rintro e w2 ⟨rfl, hE2⟩; have HG2 := (hE2.block g (blk_lt HG1)).trans HG1; have hI2 : IsS60 w0 w2 g (strB s) en s0_2 s0_3 s0_4 s0_5 s0_6 s0_7 s0_8 s0_9 s0_10 := ⟨HG2, hg⟩; have hB2 := below_step hB1 hE2; have hK2 : KeepBut w w2 g none := hK1.trans (KeepBut.of_below hE2 g none) (.inl rfl); have n0 := cellS60_0 HG2; have n1 := cellS60_1 HG2; have n2 := cellS60_2 HG2; have n3 := cellS60_3 HG2; have n4 := cellS60_4 HG2; have e1 := blk_frozen HG2 1; have e2 := blk_frozen HG2 2; have e3 := blk_frozen HG2 3; have e4 := blk_frozen HG2 4) | (go_at_call 66; refine (c2 _).mono ?_; rintro e w5 ⟨rfl, hE5⟩; have HG5 := (hE5.block g (blk_lt HG2)).trans HG2; have hB5 := below_step hB2 hE5; have hK5 : KeepBut w w5 g none := hK2.trans (KeepBut.of_below hE5 g none) (.inl rfl); have t0 := cellS60_0 HG5; have hI5 : IsS60 w0 w5 g (strB s) en s0_2 s0_3 s0_4 s0_5 s0_6 s0_7 s0_8 s0_9 s0_10 := ⟨HG5, hg⟩; have t1 := cellS60_1 HG5; have y1 := blk_frozen HG5 1) | (go_at_call 62; (with_reducible refine (run66 g s a _ t0 hal hs).mono ?_); rintro e w3 ⟨rfl, hE3⟩; have HG3 := (hE3.block g (blk_lt HG5)).trans HG5; have hI3 : IsS60 w0 w3 g (strB s) en s0_2 s0_3 s0_4 s0_5 s0_6 s0_7 s0_8 s0_9 s0_10 := ⟨HG3, hg⟩; have hB3 := below_step hB5 hE3; have hK3 : KeepBut w w3 g none := hK5.trans (KeepBut.of_below hE3 g none) (.inl rfl); have p0 := cellS60_0 HG3; have p1 := cellS60_1 HG3; have p2 := cellS60_2 HG3; have p3 := cellS60_3 HG3; have p4 := cellS60_4 HG3; have q1 := blk_frozen HG3 1; have q2 := blk_frozen HG3 2; have q3 := blk_frozen HG3 3; have q4 := blk_frozen HG3 4))
    have hI4 := hI3.set_1 ((runEnd isDg s a : Nat) : Int)
    obtain ⟨HG4, hg4⟩ := hI4
    have o0 := cellS60_0 HG4
    have o1 := cellS60_1 HG4
    have o2 := cellS60_2 HG4
    have o3 := cellS60_3 HG4
    have o4 := cellS60_4 HG4
    have x2 := blk_frozen HG4 2
    have x3 := blk_frozen HG4 3
    have x4 := blk_frozen HG4 4
    have hle := runEnd_le isDg s a hal
    have hge : a ≤ runEnd isDg s a := by unfold runEnd; omega
    have b2 : (0 : Int) ≤ (a : Int) ∧ (a : Int) ≤ (runEnd isDg s a : Int) ∧ (runEnd isDg s a : Int) ≤ s.length := by omega
    go_region_with (fail)
    all_goals rw [strB_run]
    all_goals go_end0
    all_goals exact ⟨rfl, (((hI3.set_1 _).set_2 _).set_3 _).set_4 _, below_drew ((((hB3.setCell (p := ⟨g, 1, none⟩) hg _).setCell (p := ⟨g, 2, none⟩) hg _).setCell (p := ⟨g, 3, none⟩) hg _).setCell (p := ⟨g, 4, none⟩) hg _), (((hK3.set_ 1 _).set_ 2 _).set_ 3 _).set_ 4 _⟩
   ·
    rw [if_neg hd] at h
    rw [Bool.eq_false_iff.2 hq] at c1
    rw [Bool.eq_false_iff.2 hd] at c2
    have h34e : ((ch.toNat : Int) == 34) = decide (ch = 34) := by rw [Bool.eq_iff_iff]; simp [← UInt8.toNat_inj]; omega
    by_cases k34 : ch = 34
    ·
     rw [if_pos k34] at h
     rw [decide_eq_true k34] at h34e
     clear k34
     go_enter Tryz.func44, Tryz.ntmps44
     go_wp2_with (first | (go_at_call 62; (with_reducible refine r63.mono ?_); rintro e w1 ⟨rfl, hE1⟩; have HG1 := (hE1.block g (blk_lt HG)).trans HG; have hI1 : IsS60 w0 w1 g (strB s) en s0_2 s0_3 s0_4 s0_5 s0_6 s0_7 s0_8 s0_9 s0_10 := ⟨HG1, hg⟩; have hB1 := below_step hB hE1; have hK1 : KeepBut w w1 g none := KeepBut.of_below hE1 g none; have m0 := cellS60_0 HG1; have m1 := cellS60_1 HG1; have m2 := cellS60_2 HG1; have m3 := cellS60_3 HG1; have m4 := cellS60_4 HG1; have f1 := blk_frozen HG1 1; have f2 := blk_frozen HG1 2; have f3 := blk_frozen HG1 3; have f4 := blk_frozen HG1 4) | (go_at_call 64; refine (c1 _).mono ?_; rintro e w2 ⟨rfl, hE2⟩; have HG2 := (hE2.block g (blk_lt HG1)).trans HG1; have hI2 : IsS60 w0 w2 g (strB s) en s0_2 s0_3 s0_4 s0_5 s0_6 s0_7 s0_8 s0_9 s0_10 := ⟨HG2, hg⟩; have hB2 := below_step hB1 hE2; have hK2 : KeepBut w w2 g none := hK1.trans (KeepBut.of_below hE2 g none) (.inl rfl); have n0 := cellS60_0 HG2; have n1 := cellS60_1 HG2; have n2 := cellS60_2 HG2; have n3 := cellS60_3 HG2; have n4 := cellS60_4 HG2; have e1 := blk_frozen HG2 1; have e2 := blk_frozen HG2 2; have e3 := blk_frozen HG2 3; have e4 := blk_frozen HG2 4) | (go_at_call 66; refine (c2 _).mono ?_; rintro e w5 ⟨rfl, hE5⟩; have HG5 := (hE5.block g (blk_lt HG2)).trans HG2; have hB5 := below_step hB2 hE5; have hK5 : KeepBut w w5 g none := hK2.trans (KeepBut.of_below hE5 g none) (.inl rfl); have t0 := cellS60_0 HG5; have hI5 : IsS60 w0 w5 g (strB s) en s0_2 s0_3 s0_4 s0_5 s0_6 s0_7 s0_8 s0_9 s0_10 := ⟨HG5, hg⟩; have t1 := cellS60_1 HG5; have y1 := blk_frozen HG5 1) | (go_at_call 67; (with_reducible refine (query_reader_quoted.calls k g (strB s) en s0_2 s0_3 s0_4 s0_5 s0_6 s0_7 s0_8 s0_9 s0_10 a r1 r2 r3 r4 r5 r6 r7 r8 r9 w0 _ hI5 hB5 h).mono ?_); rintro e w6 ⟨rfl, hI6, hB6, hK6⟩))
     first | go_end0 | refine bodyPost_ret (results_none rfl _ _ _) rfl ?_
     exact ⟨rfl, hI6, hB6, hK5.trans hK6 (.inl rfl)⟩
    ·
     rw [if_neg k34] at h
     simp only [k34, decide_false] at h34e
     clear k34
     go_enter Tryz.func44, Tryz.ntmps44
     go_wp2_with (first | (go_at_call 62; (with_reducible refine r63.mono ?_); rintro e w1 ⟨rfl, hE1⟩; have HG1 := (hE1.block g (blk_lt HG)).trans HG; have hI1 : IsS60 w0 w1 g (strB s) en s0_2 s0_3 s0_4 s0_5 s0_6 s0_7 s0_8 s0_9 s0_10 := ⟨HG1, hg⟩; have hB1 := below_step hB hE1; have hK1 : KeepBut w w1 g none := KeepBut.of_below hE1 g none; have m0 := cellS60_0 HG1; have m1 := cellS60_1 HG1; have m2 := cellS60_2 HG1; have m3 := cellS60_3 HG1; have m4 := cellS60_4 HG1; have f1 := blk_frozen HG1 1; have f2 := blk_frozen HG1 2; have f3 := blk_frozen HG1 3; have f4 := blk_frozen HG1 4) | (go_at_call 64; refine (c1 _).mono ?_; rintro e w2 ⟨rfl, hE2⟩; have HG2 := (hE2.block g (blk_lt HG1)).trans HG1; have hI2 : IsS60 w0 w2 g (strB s) en s0_2 s0_3 s0_4 s0_5 s0_6 s0_7 s0_8 s0_9 s0_10 := ⟨HG2, hg⟩; have hB2 := below_step hB1 hE2; have hK2 : KeepBut w w2 g none := hK1.trans (KeepBut.of_below hE2 g none) (.inl rfl); have n0 := cellS60_0 HG2; have n1 := cellS60_1 HG2; have n2 := cellS60_2 HG2; have n3 := cellS60_3 HG2; have n4 := cellS60_4 HG2; have e1 := blk_frozen HG2 1; have e2 := blk_frozen HG2 2; have e3 := blk_frozen HG2 3; have e4 := blk_frozen HG2 4) | (go_at_call 66; refine (c2 _).mono ?_; rintro e w5 ⟨rfl, hE5⟩; have HG5 := (hE5.block g (blk_lt HG2)).trans HG2; have hB5 := below_step hB2 hE5; have hK5 : KeepBut w w5 g none := hK2.trans (KeepBut.of_below hE5 g none) (.inl rfl); have t0 := cellS60_0 HG5; have hI5 : IsS60 w0 w5 g (strB s) en s0_2 s0_3 s0_4 s0_5 s0_6 s0_7 s0_8 s0_9 s0_10 := ⟨HG5, hg⟩; have t1 := cellS60_1 HG5; have y1 := blk_frozen HG5 1) | (go_at_call 68; (with_reducible refine (query_reader_signed.calls k g (strB s) en s0_2 s0_3 s0_4 s0_5 s0_6 s0_7 s0_8 s0_9 s0_10 a r1 r2 r3 r4 r5 r6 r7 r8 r9 w0 _ hI5 hB5 h).mono ?_); rintro e w6 ⟨rfl, hI6, hB6, hK6⟩))
     first | go_end0 | refine bodyPost_ret (results_none rfl _ _ _) rfl ?_
     exact ⟨rfl, hI6, hB6, hK5.trans hK6 (.inl rfl)⟩
end Go.Proofs.YthhemephaabblaaGreatDoor.Hq
namespace Go.Proofs.YthhemephaabblaaGreatDoor.Q
open Go.RowKit  Go.Proofs.YthhemephaabblaaGreatDoorW.PrintWords Go.Proofs.YthhemephaabblaaGreatDoorW.PrintLast Go.Proofs.YthhemephaabblaaGreatDoorW.PrintMore
attribute [local go_sem] max2_int min2_int max_two min_two max_three min_three max_four min_four
set_option linter.unusedVariables false
set_option linter.unusedSimpArgs false
theorem eqA37 (d : Nat) (w : World) (x0 y0 : ByteArray) (x1 y1 : Int) (x2 y2 : ByteArray) :
  (Op.equalIn (d + 2) 37 (.agg #[.string x0, .int .i64 x1, .string x2]) (.agg #[.string y0, .int .i64 y1, .string y2])).run Tryz.prog w = .ok (x0.toList == y0.toList && (x1 == y1 && (x2.toList == y2.toList))) w := by
 refine eqA_of Tryz.underlying37 (by kernel_rfl) ?_
 refine eqf_cons (by rfl) (by go_simp; rfl) (by go_simp; rfl) (by go_simp) ?_
 refine eqf_cons (by rfl) (by go_simp; rfl) (by go_simp; rfl) (by go_simp) ?_
 exact eqf_last (by rfl) (by go_simp; rfl) (by go_simp; rfl) (by go_simp)
end Go.Proofs.YthhemephaabblaaGreatDoor.Q
namespace Go.Proofs.YthhemephaabblaaGreatDoor.Q
open Go.RowKit  Go.Proofs.YthhemephaabblaaGreatDoorW.PrintWords Go.Proofs.YthhemephaabblaaGreatDoorW.PrintLast Go.Proofs.YthhemephaabblaaGreatDoorW.PrintMore
attribute [local go_sem] max2_int min2_int max_two min_two max_three min_three max_four min_four
set_option linter.unusedVariables false
set_option linter.unusedSimpArgs false
end Go.Proofs.YthhemephaabblaaGreatDoor.Q
namespace Go.Proofs.YthhemephaabblaaGreatDoor.Q
open Go.RowKit  Go.Proofs.YthhemephaabblaaGreatDoorW.PrintWords Go.Proofs.YthhemephaabblaaGreatDoorW.PrintLast Go.Proofs.YthhemephaabblaaGreatDoorW.PrintMore
attribute [local go_sem] max2_int min2_int max_two min_two max_three min_three max_four min_four
set_option linter.unusedVariables false
set_option linter.unusedSimpArgs false
end Go.Proofs.YthhemephaabblaaGreatDoor.Q
namespace Go.Proofs.YthhemephaabblaaGreatDoor.Q
open Go.RowKit  Go.Proofs.YthhemephaabblaaGreatDoorW.PrintWords Go.Proofs.YthhemephaabblaaGreatDoorW.PrintLast Go.Proofs.YthhemephaabblaaGreatDoorW.PrintMore
attribute [local go_sem] max2_int min2_int max_two min_two max_three min_three max_four min_four
set_option linter.unusedVariables false
set_option linter.unusedSimpArgs false
def cairnref32_Signs.f  : Option (List ByteArray) := some (([(⟨#[61]⟩ : ByteArray), (⟨#[33, 61]⟩ : ByteArray), (⟨#[60]⟩ : ByteArray), (⟨#[60, 61]⟩ : ByteArray), (⟨#[62]⟩ : ByteArray), (⟨#[62, 61]⟩ : ByteArray)] : List ByteArray))
set_option maxHeartbeats 8000000 in
set_option maxRecDepth 100000 in
theorem cairnref32_Signs.calls  (r : List ByteArray) (w : World) (h : cairnref32_Signs.f  = some r) :
  Calls Tryz.prog 33 #[] w fun e w' => ∃ v0_ : Value, e = .returned (v0_) ∧ Kd.R Kd.string 9 w' w.heap.size (fun _ => True) v0_ r ∧ Below w.heap.size w w' := by
 have HB := Aside0.mk (Below.refl w.heap.size w)
 have H : (some (([(⟨#[61]⟩ : ByteArray), (⟨#[33, 61]⟩ : ByteArray), (⟨#[60]⟩ : ByteArray), (⟨#[60, 61]⟩ : ByteArray), (⟨#[62]⟩ : ByteArray), (⟨#[62, 61]⟩ : ByteArray)] : List ByteArray))) = some r := h
 clear h
 obtain ⟨y186, hy186⟩ : ∃ y_ : List ByteArray, y_ = (([(⟨#[61]⟩ : ByteArray), (⟨#[33, 61]⟩ : ByteArray), (⟨#[60]⟩ : ByteArray), (⟨#[60, 61]⟩ : ByteArray), (⟨#[62]⟩ : ByteArray), (⟨#[62, 61]⟩ : ByteArray)] : List ByteArray)) := ⟨_, rfl⟩
 replace H : (some y186) = some r := by first | (rw [hy186]; with_reducible exact H) | (have H2_ := (Option.bind_some _ _).symm.trans H; rw [hy186]; with_reducible exact H2_) | (have H2_ := (Option.bind_some _ _).symm.trans H; with_reducible exact H2_) | with_reducible exact H | (rw [hy186]; exact H) | exact H
 have Ny186 := Aside0.mk hy186
 clear hy186
 obtain rfl := Option.some.inj H
 go_enter Tryz.func33, Tryz.ntmps33
 go_wp2_with (first | ((with_reducible refine gate_dst (N := 1) rfl ?_); refine Kd.R_lit Kd.string _ 9 ?hg (N := 1) ?hd (xs := ([(⟨#[61]⟩ : ByteArray), (⟨#[33, 61]⟩ : ByteArray), (⟨#[60]⟩ : ByteArray), (⟨#[60, 61]⟩ : ByteArray), (⟨#[62]⟩ : ByteArray), (⟨#[62, 61]⟩ : ByteArray)] : List ByteArray)) (inner := [.string (⟨#[61]⟩ : ByteArray), .string (⟨#[33, 61]⟩ : ByteArray), .string (⟨#[60]⟩ : ByteArray), .string (⟨#[60, 61]⟩ : ByteArray), .string (⟨#[62]⟩ : ByteArray), .string (⟨#[62, 61]⟩ : ByteArray)]) (ok := fun _ => True) (okp := fun _ => True) ?hr ?hp (fun _ hk => hk) trivial (Below.refl _ _) (Nat.le_refl _) (by simp) ?_; (case hd => rfl); (case hg => rfl); (case hr => first | (go_simp; done) | (go_simp; rfl)); (case hp => exact (Reps.one (show Kd.M Kd.string _ _ _ (⟨#[61]⟩ : ByteArray) [.string (⟨#[61]⟩ : ByteArray)] from rfl) (Reps.one (show Kd.M Kd.string _ _ _ (⟨#[33, 61]⟩ : ByteArray) [.string (⟨#[33, 61]⟩ : ByteArray)] from rfl) (Reps.one (show Kd.M Kd.string _ _ _ (⟨#[60]⟩ : ByteArray) [.string (⟨#[60]⟩ : ByteArray)] from rfl) (Reps.one (show Kd.M Kd.string _ _ _ (⟨#[60, 61]⟩ : ByteArray) [.string (⟨#[60, 61]⟩ : ByteArray)] from rfl) (Reps.one (show Kd.M Kd.string _ _ _ (⟨#[62]⟩ : ByteArray) [.string (⟨#[62]⟩ : ByteArray)] from rfl) (Reps.one (show Kd.M Kd.string _ _ _ (⟨#[62, 61]⟩ : ByteArray) [.string (⟨#[62, 61]⟩ : ByteArray)] from rfl) (Reps.none _ _)))))))); intro v187 w1 ho2 hb hg_ hnew_; clear hg_ hnew_; (first | rw [← Ny186.out] at ho2 | (simp only [Int.reduceToNat] at ho2; rw [← Ny186.out] at ho2)); have n0_ := Aside0.mk (Kd.R_lower ho2 (below_size (by repeat (first | (with_reducible first | exact HB.out | apply below_alloc | apply pw_below_drewN | apply below_drew1) | exact HB.out)))); have n1_ := Aside0.mk (below_step (by repeat (first | (with_reducible first | exact HB.out | apply below_alloc | apply pw_below_drewN | apply below_drew1) | exact HB.out)) hb); clear HB; have HO188 := n0_; have HB := n1_; clear n0_ n1_; clear hb ho2))
 go_ret
 exact ⟨_, by first | rfl | (simp [errW_none, errW_some] <;> rfl) | (simp [*, errW_none, errW_some] <;> rfl), by (with_reducible repeat (first | apply Kd.R_alloc | apply Kd.R_drewN | apply Kd.R_drew)); exact HO188.out, by repeat (first | (with_reducible first | exact HB.out | apply below_alloc | apply pw_below_drewN | apply below_drew1) | exact HB.out)⟩
def cairnref32_quoted.l0 : Nat → ByteArray → ByteArray → Int → Option (ByteArray)
 | 0, _, _, _ => none
 | k + 1, x0, x3, x4 => if x4 < (x0.size : Int) then (if 0 ≤ x4 then (if (bt x0 x4) = 34 then (if x3.size + 1 ≤ 9223372036854775807 then (if x4 ≤ (wrap64 (x4 + 1)) then (if (wrap64 (x4 + 1)) ≤ (x0.size : Int) then (if (x3 ++ (⟨#[92]⟩ : ByteArray)).size + (x0.extract (x4 : Int).toNat ((wrap64 (x4 + 1)) : Int).toNat).size ≤ 9223372036854775807 then (cairnref32_quoted.l0 k x0 ((x3 ++ (⟨#[92]⟩ : ByteArray)) ++ (x0.extract (x4 : Int).toNat ((wrap64 (x4 + 1)) : Int).toNat)) (wrap64 (x4 + 1))) else (none)) else (none)) else (none)) else (none)) else (if (bt x0 x4) = 92 then (if x3.size + 1 ≤ 9223372036854775807 then (if x4 ≤ (wrap64 (x4 + 1)) then (if (wrap64 (x4 + 1)) ≤ (x0.size : Int) then (if (x3 ++ (⟨#[92]⟩ : ByteArray)).size + (x0.extract (x4 : Int).toNat ((wrap64 (x4 + 1)) : Int).toNat).size ≤ 9223372036854775807 then (cairnref32_quoted.l0 k x0 ((x3 ++ (⟨#[92]⟩ : ByteArray)) ++ (x0.extract (x4 : Int).toNat ((wrap64 (x4 + 1)) : Int).toNat)) (wrap64 (x4 + 1))) else (none)) else (none)) else (none)) else (none)) else (if x4 ≤ (wrap64 (x4 + 1)) then (if (wrap64 (x4 + 1)) ≤ (x0.size : Int) then (if x3.size + (x0.extract (x4 : Int).toNat ((wrap64 (x4 + 1)) : Int).toNat).size ≤ 9223372036854775807 then (cairnref32_quoted.l0 k x0 (x3 ++ (x0.extract (x4 : Int).toNat ((wrap64 (x4 + 1)) : Int).toNat)) (wrap64 (x4 + 1))) else (none)) else (none)) else (none)))) else (none)) else (if x3.size + 1 ≤ 9223372036854775807 then (some (x3 ++ (⟨#[34]⟩ : ByteArray))) else (none))
def cairnref32_quoted.f (k : Nat) (a0 : ByteArray) : Option (ByteArray) := cairnref32_quoted.l0 k a0 (⟨#[34]⟩ : ByteArray) 0
set_option maxHeartbeats 8000000 in
set_option maxRecDepth 100000 in
theorem cairnref32_quoted.calls (k : Nat) (a0 : ByteArray) (r : ByteArray) (w : World) (h : cairnref32_quoted.f k a0 = some r) :
  Calls Tryz.prog 34 #[.string a0] w fun e w' => e = .returned (.string r) ∧ Drawn0 w w' := by
 have H : (cairnref32_quoted.l0 k a0 (⟨#[34]⟩ : ByteArray) 0) = some r := h
 clear h
 have H' := Aside0.mk H
 clear H
 go_enter Tryz.func34, Tryz.ntmps34
 go_wp2
 go_loopg [3, 4] k (fun kq v3 v4 w' => ∃ (x3_1 : ByteArray) (x4_1 : Int), v3 = .string x3_1 ∧ v4 = .int .i64 x4_1 ∧ Aside0 (cairnref32_quoted.l0 kq a0 x3_1 x4_1 = some r) ∧ Aside0 (kq ≤ k) ∧ Drawn0 w w')
 case atStart => exact ⟨((⟨#[34]⟩ : ByteArray)), (0), (by first | rfl | (simp; done) | (simp [*]; done)), (by first | rfl | (simp; done) | (simp [*]; done)), H', ⟨Nat.le_refl _⟩, by repeat (first | exact Drawn0.refl _ | apply Drawn0.step)⟩
 case round =>
  clear H'
  obtain ⟨x3_1, x4_1, rfl, rfl, HA, HK1, ⟨m1, rfl⟩⟩ := hrel
  cases gk with
  | zero => exact absurd HA.out (by simp [cairnref32_quoted.l0])
  | succ k1 =>
   have H := HA.out
   clear HA
   simp only [cairnref32_quoted.l0] at H
   by_cases c2 : x4_1 < (a0.size : Int)
   ·
    rw [if_pos c2] at H
    have c2b0 : decide (x4_1 < (a0.size : Int)) = true := decide_eq_true c2
    clear c2
    by_cases c3 : 0 ≤ x4_1
    ·
     rw [if_pos c3] at H
     have c3b0 : decide (0 ≤ x4_1) = true := decide_eq_true c3
     clear c3
     by_cases c5 : (bt a0 x4_1) = 34
     ·
      rw [if_pos c5] at H
      have c5b0 : ((bt a0 x4_1) == 34) = true := beq_iff_eq.mpr c5
      have c5b1 : ((bt a0 x4_1) != 34) = false := bne_eq_false_iff_eq.mpr c5
      clear c5
      by_cases c6 : x3_1.size + 1 ≤ 9223372036854775807
      ·
       rw [if_pos c6] at H
       have c6b0 := eq_true c6
       have c6b1 : decide (x3_1.size + 1 ≤ 9223372036854775807) = true := decide_eq_true c6
       try have c6b2 : (9223372036854775807 < x3_1.size + 1) = False := eq_false (Nat.not_lt.2 c6)
       have c7b0 := eq_true (of_decide_eq_true (by first | (with_reducible assumption) | assumption) : 0 ≤ x4_1)
       by_cases c8 : x4_1 ≤ (wrap64 (x4_1 + 1))
       ·
        rw [if_pos c8] at H
        have c8b0 := eq_true c8
        have c8b1 : decide (x4_1 ≤ (wrap64 (x4_1 + 1))) = true := decide_eq_true c8
        by_cases c9 : (wrap64 (x4_1 + 1)) ≤ (a0.size : Int)
        ·
         rw [if_pos c9] at H
         have c9b0 := eq_true c9
         have c9b1 : decide ((wrap64 (x4_1 + 1)) ≤ (a0.size : Int)) = true := decide_eq_true c9
         by_cases c10 : (x3_1 ++ (⟨#[92]⟩ : ByteArray)).size + (a0.extract (x4_1 : Int).toNat ((wrap64 (x4_1 + 1)) : Int).toNat).size ≤ 9223372036854775807
         ·
          rw [if_pos c10] at H
          have c10b0 := eq_true c10
          have c10b1 : decide ((x3_1 ++ (⟨#[92]⟩ : ByteArray)).size + (a0.extract (x4_1 : Int).toNat ((wrap64 (x4_1 + 1)) : Int).toNat).size ≤ 9223372036854775807) = true := decide_eq_true c10
          try have c10b2 : (9223372036854775807 < (x3_1 ++ (⟨#[92]⟩ : ByteArray)).size + (a0.extract (x4_1 : Int).toNat ((wrap64 (x4_1 + 1)) : Int).toNat).size) = False := eq_false (Nat.not_lt.2 c10)
          have H' := Aside0.mk H
          clear H
          have p4 : 0 ≤ (x4_1 : Int) := of_decide_eq_true (by first | (with_reducible assumption) | assumption)
          have q4 : x4_1 < (a0.size : Int) := of_decide_eq_true (by first | (with_reducible assumption) | assumption)
          have hx4 := bt_at a0 x4_1
          replace p4 := eq_true p4
          replace q4 := eq_true q4
          go_wp2
          go_roundg k1
          case measure => have := HK1.out; omega
          case rel => exact ⟨((x3_1 ++ (⟨#[92]⟩ : ByteArray)) ++ (a0.extract (x4_1 : Int).toNat ((wrap64 (x4_1 + 1)) : Int).toNat)), (wrap64 (x4_1 + 1)), (by first | rfl | (simp; done) | (simp [*]; done)), (by first | rfl | (simp; done) | (simp [*]; done)), H', ⟨by have := HK1.out; omega⟩, by repeat (first | exact Drawn0.refl _ | apply Drawn0.step)⟩
         ·
          rw [if_neg c10] at H
          exact absurd H (by simp)
        ·
         rw [if_neg c9] at H
         exact absurd H (by simp)
       ·
        rw [if_neg c8] at H
        exact absurd H (by simp)
      ·
       rw [if_neg c6] at H
       exact absurd H (by simp)
     ·
      rw [if_neg c5] at H
      have c5b0 : ((bt a0 x4_1) == 34) = false := beq_eq_false_iff_ne.mpr c5
      have c5b1 : ((bt a0 x4_1) != 34) = true := bne_iff_ne.mpr c5
      by_cases c12 : (bt a0 x4_1) = 92
      ·
       rw [if_pos c12] at H
       have c12b0 : ((bt a0 x4_1) == 92) = true := beq_iff_eq.mpr c12
       have c12b1 : ((bt a0 x4_1) != 92) = false := bne_eq_false_iff_eq.mpr c12
       clear c12
       by_cases c13 : x3_1.size + 1 ≤ 9223372036854775807
       ·
        rw [if_pos c13] at H
        have c13b0 := eq_true c13
        have c13b1 : decide (x3_1.size + 1 ≤ 9223372036854775807) = true := decide_eq_true c13
        try have c13b2 : (9223372036854775807 < x3_1.size + 1) = False := eq_false (Nat.not_lt.2 c13)
        have c14b0 := eq_true (of_decide_eq_true (by first | (with_reducible assumption) | assumption) : 0 ≤ x4_1)
        by_cases c15 : x4_1 ≤ (wrap64 (x4_1 + 1))
        ·
         rw [if_pos c15] at H
         have c15b0 := eq_true c15
         have c15b1 : decide (x4_1 ≤ (wrap64 (x4_1 + 1))) = true := decide_eq_true c15
         by_cases c16 : (wrap64 (x4_1 + 1)) ≤ (a0.size : Int)
         ·
          rw [if_pos c16] at H
          have c16b0 := eq_true c16
          have c16b1 : decide ((wrap64 (x4_1 + 1)) ≤ (a0.size : Int)) = true := decide_eq_true c16
          by_cases c17 : (x3_1 ++ (⟨#[92]⟩ : ByteArray)).size + (a0.extract (x4_1 : Int).toNat ((wrap64 (x4_1 + 1)) : Int).toNat).size ≤ 9223372036854775807
          ·
           rw [if_pos c17] at H
           have c17b0 := eq_true c17
           have c17b1 : decide ((x3_1 ++ (⟨#[92]⟩ : ByteArray)).size + (a0.extract (x4_1 : Int).toNat ((wrap64 (x4_1 + 1)) : Int).toNat).size ≤ 9223372036854775807) = true := decide_eq_true c17
           try have c17b2 : (9223372036854775807 < (x3_1 ++ (⟨#[92]⟩ : ByteArray)).size + (a0.extract (x4_1 : Int).toNat ((wrap64 (x4_1 + 1)) : Int).toNat).size) = False := eq_false (Nat.not_lt.2 c17)
           have H' := Aside0.mk H
           clear H
           have p4 : 0 ≤ (x4_1 : Int) := of_decide_eq_true (by first | (with_reducible assumption) | assumption)
           have q4 : x4_1 < (a0.size : Int) := of_decide_eq_true (by first | (with_reducible assumption) | assumption)
           have hx4 := bt_at a0 x4_1
           replace p4 := eq_true p4
           replace q4 := eq_true q4
           have p11 : 0 ≤ (x4_1 : Int) := of_decide_eq_true (by first | (with_reducible assumption) | assumption)
           have q11 : x4_1 < (a0.size : Int) := of_decide_eq_true (by first | (with_reducible assumption) | assumption)
           have hx11 := bt_at a0 x4_1
           replace p11 := eq_true p11
           replace q11 := eq_true q11
           go_wp2
           go_roundg k1
           case measure => have := HK1.out; omega
           case rel => exact ⟨((x3_1 ++ (⟨#[92]⟩ : ByteArray)) ++ (a0.extract (x4_1 : Int).toNat ((wrap64 (x4_1 + 1)) : Int).toNat)), (wrap64 (x4_1 + 1)), (by first | rfl | (simp; done) | (simp [*]; done)), (by first | rfl | (simp; done) | (simp [*]; done)), H', ⟨by have := HK1.out; omega⟩, by repeat (first | exact Drawn0.refl _ | apply Drawn0.step)⟩
          ·
           rw [if_neg c17] at H
           exact absurd H (by simp)
         ·
          rw [if_neg c16] at H
          exact absurd H (by simp)
        ·
         rw [if_neg c15] at H
         exact absurd H (by simp)
       ·
        rw [if_neg c13] at H
        exact absurd H (by simp)
      ·
       rw [if_neg c12] at H
       have c12b0 : ((bt a0 x4_1) == 92) = false := beq_eq_false_iff_ne.mpr c12
       have c12b1 : ((bt a0 x4_1) != 92) = true := bne_iff_ne.mpr c12
       have c18b0 := eq_true (of_decide_eq_true (by first | (with_reducible assumption) | assumption) : 0 ≤ x4_1)
       by_cases c19 : x4_1 ≤ (wrap64 (x4_1 + 1))
       ·
        rw [if_pos c19] at H
        have c19b0 := eq_true c19
        have c19b1 : decide (x4_1 ≤ (wrap64 (x4_1 + 1))) = true := decide_eq_true c19
        by_cases c20 : (wrap64 (x4_1 + 1)) ≤ (a0.size : Int)
        ·
         rw [if_pos c20] at H
         have c20b0 := eq_true c20
         have c20b1 : decide ((wrap64 (x4_1 + 1)) ≤ (a0.size : Int)) = true := decide_eq_true c20
         by_cases c21 : x3_1.size + (a0.extract (x4_1 : Int).toNat ((wrap64 (x4_1 + 1)) : Int).toNat).size ≤ 9223372036854775807
         ·
          rw [if_pos c21] at H
          have c21b0 := eq_true c21
          have c21b1 : decide (x3_1.size + (a0.extract (x4_1 : Int).toNat ((wrap64 (x4_1 + 1)) : Int).toNat).size ≤ 9223372036854775807) = true := decide_eq_true c21
          try have c21b2 : (9223372036854775807 < x3_1.size + (a0.extract (x4_1 : Int).toNat ((wrap64 (x4_1 + 1)) : Int).toNat).size) = False := eq_false (Nat.not_lt.2 c21)
          have H' := Aside0.mk H
          clear H
          have p4 : 0 ≤ (x4_1 : Int) := of_decide_eq_true (by first | (with_reducible assumption) | assumption)
          have q4 : x4_1 < (a0.size : Int) := of_decide_eq_true (by first | (with_reducible assumption) | assumption)
          have hx4 := bt_at a0 x4_1
          replace p4 := eq_true p4
          replace q4 := eq_true q4
          have p11 : 0 ≤ (x4_1 : Int) := of_decide_eq_true (by first | (with_reducible assumption) | assumption)
          have q11 : x4_1 < (a0.size : Int) := of_decide_eq_true (by first | (with_reducible assumption) | assumption)
          have hx11 := bt_at a0 x4_1
          replace p11 := eq_true p11
          replace q11 := eq_true q11
          go_wp2
          go_roundg k1
          case measure => have := HK1.out; omega
          case rel => exact ⟨(x3_1 ++ (a0.extract (x4_1 : Int).toNat ((wrap64 (x4_1 + 1)) : Int).toNat)), (wrap64 (x4_1 + 1)), (by first | rfl | (simp; done) | (simp [*]; done)), (by first | rfl | (simp; done) | (simp [*]; done)), H', ⟨by have := HK1.out; omega⟩, by repeat (first | exact Drawn0.refl _ | apply Drawn0.step)⟩
         ·
          rw [if_neg c21] at H
          exact absurd H (by simp)
        ·
         rw [if_neg c20] at H
         exact absurd H (by simp)
       ·
        rw [if_neg c19] at H
        exact absurd H (by simp)
    ·
     rw [if_neg c3] at H
     exact absurd H (by simp)
   ·
    rw [if_neg c2] at H
    have c2b0 : decide (x4_1 < (a0.size : Int)) = false := decide_eq_false c2
    clear c2
    by_cases c22 : x3_1.size + 1 ≤ 9223372036854775807
    ·
     rw [if_pos c22] at H
     have c22b0 := eq_true c22
     have c22b1 : decide (x3_1.size + 1 ≤ 9223372036854775807) = true := decide_eq_true c22
     try have c22b2 : (9223372036854775807 < x3_1.size + 1) = False := eq_false (Nat.not_lt.2 c22)
     obtain rfl := Option.some.inj H
     go_wp2
     go_ret
     exact ⟨by first | rfl | (simp; done) | (simp [*]; done), by repeat (first | exact Drawn0.refl _ | apply Drawn0.step)⟩
    ·
     rw [if_neg c22] at H
     exact absurd H (by simp)
end Go.Proofs.YthhemephaabblaaGreatDoor.Q
namespace Go.Proofs.YthhemephaabblaaGreatDoor.Q
open Go.RowKit  Go.Proofs.YthhemephaabblaaGreatDoorW.PrintWords Go.Proofs.YthhemephaabblaaGreatDoorW.PrintLast Go.Proofs.YthhemephaabblaaGreatDoorW.PrintMore
attribute [local go_sem] max2_int min2_int max_two min_two max_three min_three max_four min_four
set_option linter.unusedVariables false
set_option linter.unusedSimpArgs false
end Go.Proofs.YthhemephaabblaaGreatDoor.Q
namespace Go.Proofs.YthhemephaabblaaGreatDoor.Q
open Go.RowKit  Go.Proofs.YthhemephaabblaaGreatDoorW.PrintWords Go.Proofs.YthhemephaabblaaGreatDoorW.PrintLast Go.Proofs.YthhemephaabblaaGreatDoorW.PrintMore
attribute [local go_sem] max2_int min2_int max_two min_two max_three min_three max_four min_four
set_option linter.unusedVariables false
set_option linter.unusedSimpArgs false
def cairnlaw32_num.f (a0 : Int) : Option (Int) := some a0
set_option maxHeartbeats 8000000 in
set_option maxRecDepth 100000 in
theorem cairnlaw32_num.calls (a0 : Int) (r : Int) (w : World) (h : cairnlaw32_num.f a0 = some r) :
  Calls Tryz.prog 9 #[.int .i64 a0] w fun e w' => e = .returned (.int .i64 r) ∧ Drawn0 w w' := by
 have H : (some a0) = some r := h
 clear h
 obtain rfl := Option.some.inj H
 go_enter Tryz.func9, Tryz.ntmps9
 go_wp2
 go_ret
 exact ⟨by first | rfl | (simp; done) | (simp [*]; done), by repeat (first | exact Drawn0.refl _ | apply Drawn0.step)⟩
end Go.Proofs.YthhemephaabblaaGreatDoor.Q
namespace Go.Proofs.YthhemephaabblaaGreatDoor.Q
open Go.RowKit  Go.Proofs.YthhemephaabblaaGreatDoorW.PrintWords Go.Proofs.YthhemephaabblaaGreatDoorW.PrintLast Go.Proofs.YthhemephaabblaaGreatDoorW.PrintMore
attribute [local go_sem] max2_int min2_int max_two min_two max_three min_three max_four min_four
set_option linter.unusedVariables false
set_option linter.unusedSimpArgs false
attribute [local go_sem high] eqA37
end Go.Proofs.YthhemephaabblaaGreatDoor.Q
namespace Go.Proofs.YthhemephaabblaaGreatDoor.Q
open Go.RowKit  Go.Proofs.YthhemephaabblaaGreatDoorW.PrintWords Go.Proofs.YthhemephaabblaaGreatDoorW.PrintLast Go.Proofs.YthhemephaabblaaGreatDoorW.PrintMore
attribute [local go_sem] max2_int min2_int max_two min_two max_three min_three max_four min_four
set_option linter.unusedVariables false
set_option linter.unusedSimpArgs false
def slices_Index_string_string.l0 : Nat → List ByteArray → ByteArray → Int → Int → Option (Int)
 | 0, _, _, _, _ => none
 | k + 1, x0, x1, x7, x8 => if x8 < x7 then (if 0 ≤ x8 then (if x8 < (x0.length : Int) then (if x1.toList = (rdOf ByteArray.empty x0 x8).toList then (some x8) else (slices_Index_string_string.l0 k x0 x1 x7 (wrap64 (x8 + 1)))) else (none)) else (none)) else (some (-1))
def slices_Index_string_string.f (k : Nat) (l0 : List ByteArray) (a1 : ByteArray) : Option (Int) := slices_Index_string_string.l0 k l0 a1 (l0.length : Int) 0
set_option maxHeartbeats 8000000 in
set_option maxRecDepth 100000 in
theorem slices_Index_string_string.calls (k : Nat) (A0 : Option Addr) (c0 : Nat) (l0 : List ByteArray) (a1 : ByteArray) (r : Int) (w : World) (hr0 : Kd.C Kd.string w A0 l0.length l0) (hc0 : l0.length ≤ c0) (h : slices_Index_string_string.f k l0 a1 = some r) :
  Calls Tryz.prog 80 #[.slice A0 l0.length c0, .string a1] w fun e w' => e = .returned (.int .i64 r) ∧ Drawn0 w w' := by
 have HR0 := Aside0.mk hr0
 have HC0 := Aside0.mk hc0
 clear hr0 hc0
 have H : (slices_Index_string_string.l0 k l0 a1 (l0.length : Int) 0) = some r := h
 clear h
 have H' := Aside0.mk H
 clear H
 go_enter Tryz.func80, Tryz.ntmps80
 go_wp2
 go_loopg [8] k (fun kq v8 w' => ∃ (x8_1 : Int), v8 = .int .i64 x8_1 ∧ Aside0 (slices_Index_string_string.l0 kq l0 a1 (l0.length : Int) x8_1 = some r) ∧ Aside0 (kq ≤ k) ∧ Drawn0 w w')
 case atStart => exact ⟨(0), (by first | rfl | (simp; done) | (simp [*]; done)), H', ⟨Nat.le_refl _⟩, by repeat (first | exact Drawn0.refl _ | apply Drawn0.step)⟩
 case round =>
  clear H'
  obtain ⟨x8_1, rfl, HA, HK1, ⟨m1, rfl⟩⟩ := hrel
  cases gk with
  | zero => exact absurd HA.out (by simp [slices_Index_string_string.l0])
  | succ k1 =>
   have H := HA.out
   clear HA
   simp only [slices_Index_string_string.l0] at H
   by_cases c3 : x8_1 < (l0.length : Int)
   ·
    rw [if_pos c3] at H
    have c3b0 : decide (x8_1 < (l0.length : Int)) = true := decide_eq_true c3
    clear c3
    by_cases c4 : 0 ≤ x8_1
    ·
     rw [if_pos c4] at H
     have c4b0 : decide (0 ≤ x8_1) = true := decide_eq_true c4
     clear c4
     by_cases c5 : x8_1 < (l0.length : Int)
     ·
      rw [if_pos c5] at H
      have c5b0 : decide (x8_1 < (l0.length : Int)) = true := decide_eq_true c5
      clear c5
      by_cases c6 : a1.toList = (rdOf ByteArray.empty l0 x8_1).toList
      ·
       rw [if_pos c6] at H
       have c6b0 : (a1.toList == (rdOf ByteArray.empty l0 x8_1).toList) = true := beq_iff_eq.mpr c6
       have c6b1 : (a1.toList != (rdOf ByteArray.empty l0 x8_1).toList) = false := bne_eq_false_iff_eq.mpr c6
       clear c6
       obtain rfl := Option.some.inj H
       have p283 : 0 ≤ (x8_1 : Int) := of_decide_eq_true (by first | (with_reducible assumption) | assumption)
       have q283 : x8_1 < (l0.length : Int) := of_decide_eq_true (by first | (with_reducible assumption) | assumption)
       obtain ⟨ad283, e283, hx283_0⟩ := Kd.at_string HR0.out x8_1 p283 q283
       cases e283
       replace p283 := eq_true p283
       replace q283 := eq_true q283
       go_wp2
       go_ret
       exact ⟨by first | rfl | (simp; done) | (simp [*]; done), by repeat (first | exact Drawn0.refl _ | apply Drawn0.step)⟩
      ·
       rw [if_neg c6] at H
       have c6b0 : (a1.toList == (rdOf ByteArray.empty l0 x8_1).toList) = false := beq_eq_false_iff_ne.mpr c6
       have c6b1 : (a1.toList != (rdOf ByteArray.empty l0 x8_1).toList) = true := bne_iff_ne.mpr c6
       have H' := Aside0.mk H
       clear H
       have p283 : 0 ≤ (x8_1 : Int) := of_decide_eq_true (by first | (with_reducible assumption) | assumption)
       have q283 : x8_1 < (l0.length : Int) := of_decide_eq_true (by first | (with_reducible assumption) | assumption)
       obtain ⟨ad283, e283, hx283_0⟩ := Kd.at_string HR0.out x8_1 p283 q283
       cases e283
       replace p283 := eq_true p283
       replace q283 := eq_true q283
       go_wp2
       go_roundg k1
       case measure => have := HK1.out; omega
       case rel => exact ⟨(wrap64 (x8_1 + 1)), (by first | rfl | (simp; done) | (simp [*]; done)), H', ⟨by have := HK1.out; omega⟩, by repeat (first | exact Drawn0.refl _ | apply Drawn0.step)⟩
     ·
      rw [if_neg c5] at H
      exact absurd H (by simp)
    ·
     rw [if_neg c4] at H
     exact absurd H (by simp)
   ·
    rw [if_neg c3] at H
    have c3b0 : decide (x8_1 < (l0.length : Int)) = false := decide_eq_false c3
    clear c3
    obtain rfl := Option.some.inj H
    go_wp2
    go_ret
    exact ⟨by first | rfl | (simp; done) | (simp [*]; done), by repeat (first | exact Drawn0.refl _ | apply Drawn0.step)⟩
def query_place.f (k : Nat) (a0_0 : ByteArray) (l0_1 : List ByteArray) (a0_2 : Int) (l0_3 : List (List Int)) (a1 : ByteArray) : Option (Int) := (slices_Index_string_string.f k l0_1 a1).bind fun t285 => (some t285)
set_option maxHeartbeats 8000000 in
set_option maxRecDepth 100000 in
theorem query_place.calls (k : Nat) (a0_0 : ByteArray) (A0_1 : Option Addr) (c0_1 : Nat) (l0_1 : List ByteArray) (a0_2 : Int) (A0_3 : Option Addr) (c0_3 : Nat) (l0_3 : List (List Int)) (a1 : ByteArray) (r : Int) (w : World) (hr0_1 : Kd.C Kd.string w A0_1 l0_1.length l0_1) (hc0_1 : l0_1.length ≤ c0_1) (hr0_3 : Kd.C (Kd.slice 3 (Kd.int .i64)) w A0_3 l0_3.length l0_3) (hc0_3 : l0_3.length ≤ c0_3) (h : query_place.f k a0_0 l0_1 a0_2 l0_3 a1 = some r) :
  Calls Tryz.prog 56 #[.agg #[.string a0_0, .slice A0_1 l0_1.length c0_1, .int .i64 a0_2, .slice A0_3 l0_3.length c0_3], .string a1] w fun e w' => e = .returned (.int .i64 r) ∧ Below w.heap.size w w' := by
 have hu49 := Tryz.underlying49
 have HR0_1 := Aside0.mk hr0_1
 have HC0_1 := Aside0.mk hc0_1
 clear hr0_1 hc0_1
 have HR0_3 := Aside0.mk hr0_3
 have HC0_3 := Aside0.mk hc0_3
 clear hr0_3 hc0_3
 have HB := Aside0.mk (Below.refl w.heap.size w)
 have H : ((slices_Index_string_string.f k l0_1 a1).bind fun t285 => (some t285)) = some r := h
 clear h
 replace H := Option.bind_eq_some_iff.mp H
 obtain ⟨t285, A30, H⟩ := H
 replace H : (some t285) = some r := H
 have A3 := Aside0.mk A30
 clear A30
 obtain rfl := Option.some.inj H
 go_enter Tryz.func56, Tryz.ntmps56
 go_wp2_with (first | ((with_reducible refine gate_dst (N := 2) rfl ?_); refine box_event ?hg (N := 2) ?hd (cs := #[.string a0_0, .slice A0_1 l0_1.length c0_1, .int .i64 a0_2, .slice A0_3 l0_3.length c0_3]) (t := 49) ?hr ?_; (case hd => rfl); (case hg => rfl); (case hr => first | (go_simp; done) | (go_simp; rfl)); intro gb284 hg w4 hbox hb; have n0_ := Aside0.mk (below_step (by repeat (first | (with_reducible first | exact HB.out | apply below_alloc | apply pw_below_drewN | apply below_drew1) | exact HB.out)) hb); have n1_ := Aside0.mk (hbox); have n2_ := Aside0.mk ((by rw [hg]; exact (below_size (by repeat (first | (with_reducible first | exact HB.out | apply below_alloc | apply pw_below_drewN | apply below_drew1) | exact HB.out))) : w.heap.size ≤ gb284)); have n3_ := Aside0.mk ((by rw [hg]; exact (below_size (by repeat (first | (with_reducible first | exact HB.out | apply below_alloc | apply pw_below_drewN | apply below_drew1) | exact HB.out))) : w.heap.size ≤ gb284)); clear HB; have HB := n0_; have BK284 := n1_; have GW284 := n2_; have GE284 := n3_; clear n0_ n1_ n2_ n3_; clear hb hbox hg; have hcz5_0 : w4.cell? ⟨gb284, 0, none⟩ = some (.string a0_0) := (blk_cell BK284.out 0).trans rfl; have hcz5_1 : w4.cell? ⟨gb284, 1, none⟩ = some (.slice A0_1 l0_1.length c0_1) := (blk_cell BK284.out 1).trans rfl; have hcz5_2 : w4.cell? ⟨gb284, 2, none⟩ = some (.int .i64 a0_2) := (blk_cell BK284.out 2).trans rfl; have hcz5_3 : w4.cell? ⟨gb284, 3, none⟩ = some (.slice A0_3 l0_3.length c0_3) := (blk_cell BK284.out 3).trans rfl; have hfz5_0 := blk_frozen BK284.out 0; have hfz5_1 := blk_frozen BK284.out 1; have hfz5_2 := blk_frozen BK284.out 2; have hfz5_3 := blk_frozen BK284.out 3) | ((with_reducible refine gate_callee (f := 80) rfl ?_); refine goesL_ (some 8) rfl rfl Tryz.func80 (by kernel_rfl) rfl #[.slice A0_1 l0_1.length c0_1, .string a1] rfl (by (try simp only [List.map_toArray, List.map_cons, List.map_nil]); first | done | rfl | (simp only [List.length_drop, List.length_take]; rfl)) ?_; (with_reducible refine (slices_Index_string_string.calls k _ _ l0_1 a1 t285 _ ?side1 ?side2 A3.out).mono ?_); (case side1 => repeat (first | exact (Kd.C_below HR0_1.out HB.out) | (with_reducible refine Kd.C_alloc ?_ _) | (with_reducible refine Kd.C_drewN ?_ _) | (with_reducible refine Kd.C_drew ?_))); (case side2 => exact HC0_1.out); rintro e w' ⟨rfl, ⟨nd, rfl⟩⟩; refine ⟨_, rfl, ?_⟩))
 go_ret
 exact ⟨by first | rfl | (simp [errW_none, errW_some] <;> rfl) | (simp [*, errW_none, errW_some] <;> rfl), by repeat (first | (with_reducible first | exact HB.out | apply below_alloc | apply pw_below_drewN | apply below_drew1 | refine below_set ?_ GE284.out) | exact HB.out)⟩
def query_Query_asked.l0 : Nat → ByteArray → List (S37) → Int → Int → Option (ByteArray × Bool)
 | 0, _, _, _, _ => none
 | k + 1, x1, x9, x10, x11 => if x11 < x10 then (if 0 ≤ x11 then (if x11 < (x9.length : Int) then (if ((rd_T37 x9 x11).f1) = 1 then (if ((rd_T37 x9 x11).f0).toList = x1.toList then (some ((rd_T37 x9 x11).f2, true)) else (query_Query_asked.l0 k x1 x9 x10 (wrap64 (x11 + 1)))) else (query_Query_asked.l0 k x1 x9 x10 (wrap64 (x11 + 1)))) else (none)) else (none)) else (some ((⟨#[]⟩ : ByteArray), false))
def query_Query_asked.f (k : Nat) (l0_0 : List ByteArray) (a0_1 : ByteArray) (l0_2 : List (S37)) (a0_3 : ByteArray) (a0_4 : Bool) (a0_5 : Int) (a1 : ByteArray) : Option (ByteArray × Bool) := query_Query_asked.l0 k a1 l0_2 (l0_2.length : Int) 0
set_option maxHeartbeats 8000000 in
set_option maxRecDepth 100000 in
theorem query_Query_asked.calls (k : Nat) (A0_0 : Option Addr) (c0_0 : Nat) (l0_0 : List ByteArray) (a0_1 : ByteArray) (A0_2 : Option Addr) (c0_2 : Nat) (l0_2 : List (S37)) (a0_3 : ByteArray) (a0_4 : Bool) (a0_5 : Int) (a1 : ByteArray) (r1 : ByteArray) (r2 : Bool) (w : World) (hr0_0 : Kd.C Kd.string w A0_0 l0_0.length l0_0) (hc0_0 : l0_0.length ≤ c0_0) (hr0_2 : Kd.C k37 w A0_2 l0_2.length l0_2) (hc0_2 : l0_2.length ≤ c0_2) (h : query_Query_asked.f k l0_0 a0_1 l0_2 a0_3 a0_4 a0_5 a1 = some (r1, r2)) :
  Calls Tryz.prog 81 #[.agg #[.slice A0_0 l0_0.length c0_0, .string a0_1, .slice A0_2 l0_2.length c0_2, .string a0_3, .bool a0_4, .int .i64 a0_5], .string a1] w fun e w' => e = .returned (.tuple #[.string r1, .bool r2]) ∧ Below w.heap.size w w' := by
 have hu25 := Tryz.underlying25
 have hu37 := Tryz.underlying37
 have HR0_0 := Aside0.mk hr0_0
 have HC0_0 := Aside0.mk hc0_0
 clear hr0_0 hc0_0
 have HR0_2 := Aside0.mk hr0_2
 have HC0_2 := Aside0.mk hc0_2
 clear hr0_2 hc0_2
 have HB := Aside0.mk (Below.refl w.heap.size w)
 have H : (query_Query_asked.l0 k a1 l0_2 (l0_2.length : Int) 0) = some (r1, r2) := h
 clear h
 have H' := Aside0.mk H
 clear H
 go_enter Tryz.func81, Tryz.ntmps81
 go_wp2_with (first | ((with_reducible refine gate_dst (N := 2) rfl ?_); refine box_event ?hg (N := 2) ?hd (cs := #[.slice A0_0 l0_0.length c0_0, .string a0_1, .slice A0_2 l0_2.length c0_2, .string a0_3, .bool a0_4, .int .i64 a0_5]) (t := 25) ?hr ?_; (case hd => rfl); (case hg => rfl); (case hr => first | (go_simp; done) | (go_simp; rfl)); intro gb286 hg w3 hbox hb; have n0_ := Aside0.mk (below_step (by repeat (first | (with_reducible first | exact HB.out | apply below_alloc | apply pw_below_drewN | apply below_drew1) | exact HB.out)) hb); have n1_ := Aside0.mk (hbox); have n2_ := Aside0.mk ((by rw [hg]; exact (below_size (by repeat (first | (with_reducible first | exact HB.out | apply below_alloc | apply pw_below_drewN | apply below_drew1) | exact HB.out))) : w.heap.size ≤ gb286)); have n3_ := Aside0.mk ((by rw [hg]; exact (below_size (by repeat (first | (with_reducible first | exact HB.out | apply below_alloc | apply pw_below_drewN | apply below_drew1) | exact HB.out))) : w.heap.size ≤ gb286)); clear HB; have HB := n0_; have BK286 := n1_; have GW286 := n2_; have GE286 := n3_; clear n0_ n1_ n2_ n3_; clear hb hbox hg; have hcz4_0 : w3.cell? ⟨gb286, 0, none⟩ = some (.slice A0_0 l0_0.length c0_0) := (blk_cell BK286.out 0).trans rfl; have hcz4_1 : w3.cell? ⟨gb286, 1, none⟩ = some (.string a0_1) := (blk_cell BK286.out 1).trans rfl; have hcz4_2 : w3.cell? ⟨gb286, 2, none⟩ = some (.slice A0_2 l0_2.length c0_2) := (blk_cell BK286.out 2).trans rfl; have hcz4_3 : w3.cell? ⟨gb286, 3, none⟩ = some (.string a0_3) := (blk_cell BK286.out 3).trans rfl; have hcz4_4 : w3.cell? ⟨gb286, 4, none⟩ = some (.bool a0_4) := (blk_cell BK286.out 4).trans rfl; have hcz4_5 : w3.cell? ⟨gb286, 5, none⟩ = some (.int .i64 a0_5) := (blk_cell BK286.out 5).trans rfl; have hfz4_0 := blk_frozen BK286.out 0; have hfz4_1 := blk_frozen BK286.out 1; have hfz4_2 := blk_frozen BK286.out 2; have hfz4_3 := blk_frozen BK286.out 3; have hfz4_4 := blk_frozen BK286.out 4; have hfz4_5 := blk_frozen BK286.out 5))
 go_loopg [11] k (fun kq v11 w' => ∃ (x11_1 : Int), v11 = .int .i64 x11_1 ∧ Aside0 (query_Query_asked.l0 kq a1 l0_2 (l0_2.length : Int) x11_1 = some (r1, r2)) ∧ Aside0 (kq ≤ k) ∧ Aside0 (w'.heap[gb286]? = some (.cells #[(.slice A0_0 l0_0.length c0_0), .string a0_1, (.slice A0_2 l0_2.length c0_2), .string a0_3, .bool a0_4, .int .i64 a0_5] 25 (0, 0))) ∧ Aside0 (Below w.heap.size w w'))
 case atStart => exact ⟨(0), (by first | rfl | (simp; done) | (simp [*]; done)), H', ⟨Nat.le_refl _⟩, ⟨by (with_reducible repeat (first | refine blk_drewN ?_ _ | refine blk_drew ?_ | refine blk_alloc ?_ _)); exact BK286.out⟩, ⟨by repeat (first | (with_reducible first | exact HB.out | apply below_alloc | apply pw_below_drewN | apply below_drew1 | refine below_set ?_ GE286.out) | exact HB.out)⟩⟩
 case round =>
  clear H'
  try clear hcz4_0
  try clear hcz4_1
  try clear hcz4_2
  try clear hcz4_3
  try clear hcz4_4
  try clear hcz4_5
  try clear hfz4_0
  try clear hfz4_1
  try clear hfz4_2
  try clear hfz4_3
  try clear hfz4_4
  try clear hfz4_5
  obtain ⟨x11_1, rfl, HA, HK1, BK286, HB⟩ := hrel
  cases gk with
  | zero => exact absurd HA.out (by simp [query_Query_asked.l0])
  | succ k1 =>
   have H := HA.out
   clear HA
   simp only [query_Query_asked.l0] at H
   by_cases c5 : x11_1 < (l0_2.length : Int)
   ·
    rw [if_pos c5] at H
    have c5b0 : decide (x11_1 < (l0_2.length : Int)) = true := decide_eq_true c5
    clear c5
    by_cases c6 : 0 ≤ x11_1
    ·
     rw [if_pos c6] at H
     have c6b0 : decide (0 ≤ x11_1) = true := decide_eq_true c6
     clear c6
     by_cases c7 : x11_1 < (l0_2.length : Int)
     ·
      rw [if_pos c7] at H
      have c7b0 : decide (x11_1 < (l0_2.length : Int)) = true := decide_eq_true c7
      clear c7
      by_cases c8 : ((rd_T37 l0_2 x11_1).f1) = 1
      ·
       rw [if_pos c8] at H
       have c8b0 : (((rd_T37 l0_2 x11_1).f1) == 1) = true := beq_iff_eq.mpr c8
       have c8b1 : (((rd_T37 l0_2 x11_1).f1) != 1) = false := bne_eq_false_iff_eq.mpr c8
       clear c8
       by_cases c9 : ((rd_T37 l0_2 x11_1).f0).toList = a1.toList
       ·
        rw [if_pos c9] at H
        have c9b0 : (((rd_T37 l0_2 x11_1).f0).toList == a1.toList) = true := beq_iff_eq.mpr c9
        have c9b1 : (((rd_T37 l0_2 x11_1).f0).toList != a1.toList) = false := bne_eq_false_iff_eq.mpr c9
        clear c9
        simp only [Option.some.injEq, Prod.mk.injEq] at H
        obtain ⟨rfl, rfl⟩ := H
        have p287 : 0 ≤ (x11_1 : Int) := of_decide_eq_true (by first | (with_reducible assumption) | assumption)
        have q287 : x11_1 < (l0_2.length : Int) := of_decide_eq_true (by first | (with_reducible assumption) | assumption)
        obtain ⟨ad287, e287, hx287_0, hx287_1, hx287_2⟩ := at_T37 HR0_2.out x11_1 p287 q287
        cases e287
        replace hx287_0 := (HB.out.cell (World.block_lt_of_cell? w _ hx287_0)).trans hx287_0
        replace hx287_1 := (HB.out.cell (World.block_lt_of_cell? w _ hx287_1)).trans hx287_1
        replace hx287_2 := (HB.out.cell (World.block_lt_of_cell? w _ hx287_2)).trans hx287_2
        replace p287 := eq_true p287
        replace q287 := eq_true q287
        go_wp2_with (first | ((with_reducible refine gate_dst (N := 7) rfl ?_); refine box_event ?hg (N := 7) ?hd (cs := #[.string (⟨#[]⟩ : ByteArray), .int .i64 0, .string (⟨#[]⟩ : ByteArray)]) (t := 37) ?hr ?_; (case hd => rfl); (case hg => rfl); (case hr => first | (go_simp; done) | (go_simp; rfl)); intro gb288 hg w10 hbox hb; have n0_ := Aside0.mk (blk_below (g := gb286) (o := .cells #[.slice A0_0 l0_0.length c0_0, .string a0_1, .slice (some ad287) l0_2.length c0_2, .string a0_3, .bool a0_4, .int .i64 a0_5] 25 (0, 0)) (by (with_reducible repeat (first | refine blk_drewN ?_ _ | refine blk_drew ?_ | refine blk_alloc ?_ _)); exact BK286.out) hb); have n1_ := Aside0.mk (below_step (by repeat (first | (with_reducible first | exact HB.out | apply below_alloc | apply pw_below_drewN | apply below_drew1 | refine below_set ?_ GE286.out) | exact HB.out)) hb); have n2_ := Aside0.mk (hbox); have n3_ := Aside0.mk ((by rw [hg]; exact (below_size (by repeat (first | (with_reducible first | exact HB.out | apply below_alloc | apply pw_below_drewN | apply below_drew1 | refine below_set ?_ GE286.out) | exact HB.out))) : w.heap.size ≤ gb288)); have n4_ := Aside0.mk ((by rw [hg]; exact (below_size (by repeat (first | (with_reducible first | exact HB.out | apply below_alloc | apply pw_below_drewN | apply below_drew1 | refine below_set ?_ GE286.out) | exact HB.out))) : w.heap.size ≤ gb288)); have n5_ := Aside0.mk ((by rw [hg]; exact Nat.ne_of_lt (blk_lt (g := gb286) (o := .cells #[.slice A0_0 l0_0.length c0_0, .string a0_1, .slice (some ad287) l0_2.length c0_2, .string a0_3, .bool a0_4, .int .i64 a0_5] 25 (0, 0)) (by (with_reducible repeat (first | refine blk_drewN ?_ _ | refine blk_drew ?_ | refine blk_alloc ?_ _)); exact BK286.out)) : gb286 ≠ gb288)); have n6_ := Aside0.mk ((by rw [hg]; exact Nat.ne_of_gt (blk_lt (g := gb286) (o := .cells #[.slice A0_0 l0_0.length c0_0, .string a0_1, .slice (some ad287) l0_2.length c0_2, .string a0_3, .bool a0_4, .int .i64 a0_5] 25 (0, 0)) (by (with_reducible repeat (first | refine blk_drewN ?_ _ | refine blk_drew ?_ | refine blk_alloc ?_ _)); exact BK286.out)) : gb288 ≠ gb286)); clear BK286; clear HB; have BK286 := n0_; have HB := n1_; have BK288 := n2_; have GW288 := n3_; have GE288 := n4_; have NB286_288 := n5_; have NB288_286 := n6_; clear n0_ n1_ n2_ n3_ n4_ n5_ n6_; clear hb hbox hg; have hnb11 := NB288_286.out; have hnc11 := NB286_288.out; have hcz12_0 : w10.cell? ⟨gb288, 0, none⟩ = some (.string (⟨#[]⟩ : ByteArray)) := (blk_cell BK288.out 0).trans rfl; have hcz12_1 : w10.cell? ⟨gb288, 1, none⟩ = some (.int .i64 0) := (blk_cell BK288.out 1).trans rfl; have hcz12_2 : w10.cell? ⟨gb288, 2, none⟩ = some (.string (⟨#[]⟩ : ByteArray)) := (blk_cell BK288.out 2).trans rfl; have hfz12_0 := blk_frozen BK288.out 0; have hfz12_1 := blk_frozen BK288.out 1; have hfz12_2 := blk_frozen BK288.out 2))
        go_ret2
        exact ⟨by first | rfl | (simp [errW_none, errW_some] <;> rfl) | (simp [*, errW_none, errW_some] <;> rfl), by repeat (first | (with_reducible first | exact HB.out | apply below_alloc | apply pw_below_drewN | apply below_drew1 | refine below_set ?_ GE286.out | refine below_set ?_ GE288.out) | exact HB.out)⟩
       ·
        rw [if_neg c9] at H
        have c9b0 : (((rd_T37 l0_2 x11_1).f0).toList == a1.toList) = false := beq_eq_false_iff_ne.mpr c9
        have c9b1 : (((rd_T37 l0_2 x11_1).f0).toList != a1.toList) = true := bne_iff_ne.mpr c9
        have H' := Aside0.mk H
        clear H
        have p287 : 0 ≤ (x11_1 : Int) := of_decide_eq_true (by first | (with_reducible assumption) | assumption)
        have q287 : x11_1 < (l0_2.length : Int) := of_decide_eq_true (by first | (with_reducible assumption) | assumption)
        obtain ⟨ad287, e287, hx287_0, hx287_1, hx287_2⟩ := at_T37 HR0_2.out x11_1 p287 q287
        cases e287
        replace hx287_0 := (HB.out.cell (World.block_lt_of_cell? w _ hx287_0)).trans hx287_0
        replace hx287_1 := (HB.out.cell (World.block_lt_of_cell? w _ hx287_1)).trans hx287_1
        replace hx287_2 := (HB.out.cell (World.block_lt_of_cell? w _ hx287_2)).trans hx287_2
        replace p287 := eq_true p287
        replace q287 := eq_true q287
        go_wp2_with (first | ((with_reducible refine gate_dst (N := 7) rfl ?_); refine box_event ?hg (N := 7) ?hd (cs := #[.string (⟨#[]⟩ : ByteArray), .int .i64 0, .string (⟨#[]⟩ : ByteArray)]) (t := 37) ?hr ?_; (case hd => rfl); (case hg => rfl); (case hr => first | (go_simp; done) | (go_simp; rfl)); intro gb288 hg w13 hbox hb; have n0_ := Aside0.mk (blk_below (g := gb286) (o := .cells #[.slice A0_0 l0_0.length c0_0, .string a0_1, .slice (some ad287) l0_2.length c0_2, .string a0_3, .bool a0_4, .int .i64 a0_5] 25 (0, 0)) (by (with_reducible repeat (first | refine blk_drewN ?_ _ | refine blk_drew ?_ | refine blk_alloc ?_ _)); exact BK286.out) hb); have n1_ := Aside0.mk (below_step (by repeat (first | (with_reducible first | exact HB.out | apply below_alloc | apply pw_below_drewN | apply below_drew1 | refine below_set ?_ GE286.out) | exact HB.out)) hb); have n2_ := Aside0.mk (hbox); have n3_ := Aside0.mk ((by rw [hg]; exact (below_size (by repeat (first | (with_reducible first | exact HB.out | apply below_alloc | apply pw_below_drewN | apply below_drew1 | refine below_set ?_ GE286.out) | exact HB.out))) : w.heap.size ≤ gb288)); have n4_ := Aside0.mk ((by rw [hg]; exact (below_size (by repeat (first | (with_reducible first | exact HB.out | apply below_alloc | apply pw_below_drewN | apply below_drew1 | refine below_set ?_ GE286.out) | exact HB.out))) : w.heap.size ≤ gb288)); have n5_ := Aside0.mk ((by rw [hg]; exact Nat.ne_of_lt (blk_lt (g := gb286) (o := .cells #[.slice A0_0 l0_0.length c0_0, .string a0_1, .slice (some ad287) l0_2.length c0_2, .string a0_3, .bool a0_4, .int .i64 a0_5] 25 (0, 0)) (by (with_reducible repeat (first | refine blk_drewN ?_ _ | refine blk_drew ?_ | refine blk_alloc ?_ _)); exact BK286.out)) : gb286 ≠ gb288)); have n6_ := Aside0.mk ((by rw [hg]; exact Nat.ne_of_gt (blk_lt (g := gb286) (o := .cells #[.slice A0_0 l0_0.length c0_0, .string a0_1, .slice (some ad287) l0_2.length c0_2, .string a0_3, .bool a0_4, .int .i64 a0_5] 25 (0, 0)) (by (with_reducible repeat (first | refine blk_drewN ?_ _ | refine blk_drew ?_ | refine blk_alloc ?_ _)); exact BK286.out)) : gb288 ≠ gb286)); clear BK286; clear HB; have BK286 := n0_; have HB := n1_; have BK288 := n2_; have GW288 := n3_; have GE288 := n4_; have NB286_288 := n5_; have NB288_286 := n6_; clear n0_ n1_ n2_ n3_ n4_ n5_ n6_; clear hb hbox hg; have hnb14 := NB288_286.out; have hnc14 := NB286_288.out; have hcz15_0 : w13.cell? ⟨gb288, 0, none⟩ = some (.string (⟨#[]⟩ : ByteArray)) := (blk_cell BK288.out 0).trans rfl; have hcz15_1 : w13.cell? ⟨gb288, 1, none⟩ = some (.int .i64 0) := (blk_cell BK288.out 1).trans rfl; have hcz15_2 : w13.cell? ⟨gb288, 2, none⟩ = some (.string (⟨#[]⟩ : ByteArray)) := (blk_cell BK288.out 2).trans rfl; have hfz15_0 := blk_frozen BK288.out 0; have hfz15_1 := blk_frozen BK288.out 1; have hfz15_2 := blk_frozen BK288.out 2))
        go_roundg k1
        case measure => have := HK1.out; omega
        case rel => exact ⟨(wrap64 (x11_1 + 1)), (by first | rfl | (simp; done) | (simp [*]; done)), H', ⟨by have := HK1.out; omega⟩, ⟨by (with_reducible repeat (first | refine blk_drewN ?_ _ | refine blk_drew ?_ | refine blk_alloc ?_ _)); refine blk_far ?_ NB286_288.out _; (with_reducible repeat (first | refine blk_drewN ?_ _ | refine blk_drew ?_ | refine blk_alloc ?_ _)); refine blk_far ?_ NB286_288.out _; (with_reducible repeat (first | refine blk_drewN ?_ _ | refine blk_drew ?_ | refine blk_alloc ?_ _)); refine blk_far ?_ NB286_288.out _; (with_reducible repeat (first | refine blk_drewN ?_ _ | refine blk_drew ?_ | refine blk_alloc ?_ _)); exact BK286.out⟩, ⟨by repeat (first | (with_reducible first | exact HB.out | apply below_alloc | apply pw_below_drewN | apply below_drew1 | refine below_set ?_ GE286.out | refine below_set ?_ GE288.out) | exact HB.out)⟩⟩
      ·
       rw [if_neg c8] at H
       have c8b0 : (((rd_T37 l0_2 x11_1).f1) == 1) = false := beq_eq_false_iff_ne.mpr c8
       have c8b1 : (((rd_T37 l0_2 x11_1).f1) != 1) = true := bne_iff_ne.mpr c8
       have H' := Aside0.mk H
       clear H
       have p287 : 0 ≤ (x11_1 : Int) := of_decide_eq_true (by first | (with_reducible assumption) | assumption)
       have q287 : x11_1 < (l0_2.length : Int) := of_decide_eq_true (by first | (with_reducible assumption) | assumption)
       obtain ⟨ad287, e287, hx287_0, hx287_1, hx287_2⟩ := at_T37 HR0_2.out x11_1 p287 q287
       cases e287
       replace hx287_0 := (HB.out.cell (World.block_lt_of_cell? w _ hx287_0)).trans hx287_0
       replace hx287_1 := (HB.out.cell (World.block_lt_of_cell? w _ hx287_1)).trans hx287_1
       replace hx287_2 := (HB.out.cell (World.block_lt_of_cell? w _ hx287_2)).trans hx287_2
       replace p287 := eq_true p287
       replace q287 := eq_true q287
       go_wp2_with (first | ((with_reducible refine gate_dst (N := 7) rfl ?_); refine box_event ?hg (N := 7) ?hd (cs := #[.string (⟨#[]⟩ : ByteArray), .int .i64 0, .string (⟨#[]⟩ : ByteArray)]) (t := 37) ?hr ?_; (case hd => rfl); (case hg => rfl); (case hr => first | (go_simp; done) | (go_simp; rfl)); intro gb288 hg w16 hbox hb; have n0_ := Aside0.mk (blk_below (g := gb286) (o := .cells #[.slice A0_0 l0_0.length c0_0, .string a0_1, .slice (some ad287) l0_2.length c0_2, .string a0_3, .bool a0_4, .int .i64 a0_5] 25 (0, 0)) (by (with_reducible repeat (first | refine blk_drewN ?_ _ | refine blk_drew ?_ | refine blk_alloc ?_ _)); exact BK286.out) hb); have n1_ := Aside0.mk (below_step (by repeat (first | (with_reducible first | exact HB.out | apply below_alloc | apply pw_below_drewN | apply below_drew1 | refine below_set ?_ GE286.out) | exact HB.out)) hb); have n2_ := Aside0.mk (hbox); have n3_ := Aside0.mk ((by rw [hg]; exact (below_size (by repeat (first | (with_reducible first | exact HB.out | apply below_alloc | apply pw_below_drewN | apply below_drew1 | refine below_set ?_ GE286.out) | exact HB.out))) : w.heap.size ≤ gb288)); have n4_ := Aside0.mk ((by rw [hg]; exact (below_size (by repeat (first | (with_reducible first | exact HB.out | apply below_alloc | apply pw_below_drewN | apply below_drew1 | refine below_set ?_ GE286.out) | exact HB.out))) : w.heap.size ≤ gb288)); have n5_ := Aside0.mk ((by rw [hg]; exact Nat.ne_of_lt (blk_lt (g := gb286) (o := .cells #[.slice A0_0 l0_0.length c0_0, .string a0_1, .slice (some ad287) l0_2.length c0_2, .string a0_3, .bool a0_4, .int .i64 a0_5] 25 (0, 0)) (by (with_reducible repeat (first | refine blk_drewN ?_ _ | refine blk_drew ?_ | refine blk_alloc ?_ _)); exact BK286.out)) : gb286 ≠ gb288)); have n6_ := Aside0.mk ((by rw [hg]; exact Nat.ne_of_gt (blk_lt (g := gb286) (o := .cells #[.slice A0_0 l0_0.length c0_0, .string a0_1, .slice (some ad287) l0_2.length c0_2, .string a0_3, .bool a0_4, .int .i64 a0_5] 25 (0, 0)) (by (with_reducible repeat (first | refine blk_drewN ?_ _ | refine blk_drew ?_ | refine blk_alloc ?_ _)); exact BK286.out)) : gb288 ≠ gb286)); clear BK286; clear HB; have BK286 := n0_; have HB := n1_; have BK288 := n2_; have GW288 := n3_; have GE288 := n4_; have NB286_288 := n5_; have NB288_286 := n6_; clear n0_ n1_ n2_ n3_ n4_ n5_ n6_; clear hb hbox hg; have hnb17 := NB288_286.out; have hnc17 := NB286_288.out; have hcz18_0 : w16.cell? ⟨gb288, 0, none⟩ = some (.string (⟨#[]⟩ : ByteArray)) := (blk_cell BK288.out 0).trans rfl; have hcz18_1 : w16.cell? ⟨gb288, 1, none⟩ = some (.int .i64 0) := (blk_cell BK288.out 1).trans rfl; have hcz18_2 : w16.cell? ⟨gb288, 2, none⟩ = some (.string (⟨#[]⟩ : ByteArray)) := (blk_cell BK288.out 2).trans rfl; have hfz18_0 := blk_frozen BK288.out 0; have hfz18_1 := blk_frozen BK288.out 1; have hfz18_2 := blk_frozen BK288.out 2))
       go_roundg k1
       case measure => have := HK1.out; omega
       case rel => exact ⟨(wrap64 (x11_1 + 1)), (by first | rfl | (simp; done) | (simp [*]; done)), H', ⟨by have := HK1.out; omega⟩, ⟨by (with_reducible repeat (first | refine blk_drewN ?_ _ | refine blk_drew ?_ | refine blk_alloc ?_ _)); refine blk_far ?_ NB286_288.out _; (with_reducible repeat (first | refine blk_drewN ?_ _ | refine blk_drew ?_ | refine blk_alloc ?_ _)); refine blk_far ?_ NB286_288.out _; (with_reducible repeat (first | refine blk_drewN ?_ _ | refine blk_drew ?_ | refine blk_alloc ?_ _)); refine blk_far ?_ NB286_288.out _; (with_reducible repeat (first | refine blk_drewN ?_ _ | refine blk_drew ?_ | refine blk_alloc ?_ _)); exact BK286.out⟩, ⟨by repeat (first | (with_reducible first | exact HB.out | apply below_alloc | apply pw_below_drewN | apply below_drew1 | refine below_set ?_ GE286.out | refine below_set ?_ GE288.out) | exact HB.out)⟩⟩
     ·
      rw [if_neg c7] at H
      exact absurd H (by simp)
    ·
     rw [if_neg c6] at H
     exact absurd H (by simp)
   ·
    rw [if_neg c5] at H
    have c5b0 : decide (x11_1 < (l0_2.length : Int)) = false := decide_eq_false c5
    clear c5
    simp only [Option.some.injEq, Prod.mk.injEq] at H
    obtain ⟨rfl, rfl⟩ := H
    go_wp2
    go_ret2
    exact ⟨by first | rfl | (simp [errW_none, errW_some] <;> rfl) | (simp [*, errW_none, errW_some] <;> rfl), by repeat (first | (with_reducible first | exact HB.out | apply below_alloc | apply pw_below_drewN | apply below_drew1 | refine below_set ?_ GE286.out) | exact HB.out)⟩
mutual
def query_Query_values.l0 : Nat → List ByteArray → List Int → Int → Int → List ByteArray → ByteArray → List (S37) → ByteArray → Bool → Int → ByteArray → List ByteArray → Int → List (List Int) → Option (List ByteArray)
 | 0, _, _, _, _, _, _, _, _, _, _, _, _, _, _ => none
 | k + 1, x7, x12, x13, x14, x290000, x290001, x290002, x290003, x290004, x290005, x291000, x291001, x291002, x291003 => if x14 < x13 then (if 0 ≤ x14 then (if x14 < (x12.length : Int) then (if (rd x12 x14) < 0 then (query_Query_values.j1 k x7 (rd x12 x14) x12 x13 x14 true x290000 x290001 x290002 x290003 x290004 x290005 x291000 x291001 x291002 x291003) else (query_Query_values.j1 k x7 (rd x12 x14) x12 x13 x14 (decide ((rd x12 x14) ≥ (x291001.length : Int))) x290000 x290001 x290002 x290003 x290004 x290005 x291000 x291001 x291002 x291003)) else (none)) else (none)) else (some x7)
def query_Query_values.j1 : Nat → List ByteArray → Int → List Int → Int → Int → Bool → List ByteArray → ByteArray → List (S37) → ByteArray → Bool → Int → ByteArray → List ByteArray → Int → List (List Int) → Option (List ByteArray)
 | 0, _, _, _, _, _, _, _, _, _, _, _, _, _, _, _, _ => none
 | k + 1, x7, x9, x12, x13, x14, x26, x290000, x290001, x290002, x290003, x290004, x290005, x291000, x291001, x291002, x291003 => if x26 = true then (some x7) else (if 0 ≤ x9 then (if x9 < (x291001.length : Int) then ((query_Query_asked.f k x290000 x290001 x290002 x290003 x290004 x290005 (rdOf ByteArray.empty x291001 x9)).bind fun bt293 => (if bt293.2 = true then (if x7.length < 8796093022208 then (query_Query_values.l0 k (x7 ++ [bt293.1]) x12 x13 (wrap64 (x14 + 1)) x290000 x290001 x290002 x290003 x290004 x290005 x291000 x291001 x291002 x291003) else (none)) else (some x7))) else (none)) else (none))
end
def query_Query_values.f (k : Nat) (l0_0 : List ByteArray) (a0_1 : ByteArray) (l0_2 : List (S37)) (a0_3 : ByteArray) (a0_4 : Bool) (a0_5 : Int) (a1_0 : ByteArray) (l1_1 : List ByteArray) (a1_2 : Int) (l1_3 : List (List Int)) (l2 : List Int) : Option (List ByteArray) := query_Query_values.l0 k ([] : List ByteArray) l2 (l2.length : Int) 0 l0_0 a0_1 l0_2 a0_3 a0_4 a0_5 a1_0 l1_1 a1_2 l1_3
def query_Query_values.T6 : Bool × List (List Nat × List Nat) := (true, [([], []), ([], []), ([1], [1]), ([], []), ([2, 3], [2, 3]), ([4], [4]), ([0, 5], [0, 5]), ([6], [6]), ([7], [7]), ([7], [7]), ([8, 6, 0, 1, 2, 3, 4, 5, 6, 7, 8], [8]), ([9, 10, 0, 1, 2, 3, 4, 5, 6, 7, 8, 9, 10], [9])])
def query_Query_values.B6 : List Nat := [0, 0, 2, 0, 14, 30, 63, 127, 255, 255, 511, 2047]
theorem query_Query_values.tab6 : rtab .any (opsOf Tryz.f57 6) = query_Query_values.T6 := by kernel_rfl
theorem query_Query_values.bits6 : waitsOk query_Query_values.T6.2 query_Query_values.B6 = true := by kernel_rfl
set_option maxHeartbeats 8000000 in
set_option maxRecDepth 100000 in
theorem query_Query_values.calls (k : Nat) (A0_0 : Option Addr) (c0_0 : Nat) (l0_0 : List ByteArray) (a0_1 : ByteArray) (A0_2 : Option Addr) (c0_2 : Nat) (l0_2 : List (S37)) (a0_3 : ByteArray) (a0_4 : Bool) (a0_5 : Int) (a1_0 : ByteArray) (A1_1 : Option Addr) (c1_1 : Nat) (l1_1 : List ByteArray) (a1_2 : Int) (A1_3 : Option Addr) (c1_3 : Nat) (l1_3 : List (List Int)) (A2 : Option Addr) (c2 : Nat) (l2 : List Int) (r : List ByteArray) (w : World) (hr0_0 : Kd.C Kd.string w A0_0 l0_0.length l0_0) (hc0_0 : l0_0.length ≤ c0_0) (hr0_2 : Kd.C k37 w A0_2 l0_2.length l0_2) (hc0_2 : l0_2.length ≤ c0_2) (hr1_1 : Kd.C Kd.string w A1_1 l1_1.length l1_1) (hc1_1 : l1_1.length ≤ c1_1) (hr1_3 : Kd.C (Kd.slice 3 (Kd.int .i64)) w A1_3 l1_3.length l1_3) (hc1_3 : l1_3.length ≤ c1_3) (hr2 : Kd.C (Kd.int .i64) w A2 l2.length l2) (hc2 : l2.length ≤ c2) (h : query_Query_values.f k l0_0 a0_1 l0_2 a0_3 a0_4 a0_5 a1_0 l1_1 a1_2 l1_3 l2 = some r) :
  Calls Tryz.prog 57 #[.agg #[.slice A0_0 l0_0.length c0_0, .string a0_1, .slice A0_2 l0_2.length c0_2, .string a0_3, .bool a0_4, .int .i64 a0_5], .agg #[.string a1_0, .slice A1_1 l1_1.length c1_1, .int .i64 a1_2, .slice A1_3 l1_3.length c1_3], .slice A2 l2.length c2] w fun e w' => ∃ v0_ : Value, e = .returned (v0_) ∧ Kd.R Kd.string 9 w' w.heap.size (fun _ => True) v0_ r ∧ Below w.heap.size w w' := by
 have hu25 := Tryz.underlying25
 have hu49 := Tryz.underlying49
 have HR0_0 := Aside0.mk hr0_0
 have HC0_0 := Aside0.mk hc0_0
 clear hr0_0 hc0_0
 have HR0_2 := Aside0.mk hr0_2
 have HC0_2 := Aside0.mk hc0_2
 clear hr0_2 hc0_2
 have HR1_1 := Aside0.mk hr1_1
 have HC1_1 := Aside0.mk hc1_1
 clear hr1_1 hc1_1
 have HR1_3 := Aside0.mk hr1_3
 have HC1_3 := Aside0.mk hc1_3
 clear hr1_3 hc1_3
 have HR2 := Aside0.mk hr2
 have HC2 := Aside0.mk hc2
 clear hr2 hc2
 have HB := Aside0.mk (Below.refl w.heap.size w)
 have H : (query_Query_values.l0 k ([] : List ByteArray) l2 (l2.length : Int) 0 l0_0 a0_1 l0_2 a0_3 a0_4 a0_5 a1_0 l1_1 a1_2 l1_3) = some r := h
 clear h
 have H' := Aside0.mk H
 clear H
 go_enter Tryz.func57, Tryz.ntmps57
 go_wp2_with (first | ((with_reducible refine gate_dst (N := 3) rfl ?_); (try (refine gate_guard (by rfl) ?_; dsimp only)); refine box_event ?hg (N := 3) ?hd (cs := #[.slice A0_0 l0_0.length c0_0, .string a0_1, .slice A0_2 l0_2.length c0_2, .string a0_3, .bool a0_4, .int .i64 a0_5]) (t := 25) ?hr ?_; (case hd => rfl); (case hg => rfl); (case hr => first | (go_simp; done) | (go_simp; rfl)); intro gb289 hg w4 hbox hb; have n0_ := Aside0.mk (below_step (by repeat (first | (with_reducible first | exact HB.out | apply below_alloc | apply pw_below_drewN | apply below_drew1) | exact HB.out)) hb); have n1_ := Aside0.mk (hbox); have n2_ := Aside0.mk ((by rw [hg]; exact (below_size (by repeat (first | (with_reducible first | exact HB.out | apply below_alloc | apply pw_below_drewN | apply below_drew1) | exact HB.out))) : w.heap.size ≤ gb289)); have n3_ := Aside0.mk ((by rw [hg]; exact (below_size (by repeat (first | (with_reducible first | exact HB.out | apply below_alloc | apply pw_below_drewN | apply below_drew1) | exact HB.out))) : w.heap.size ≤ gb289)); clear HB; have HB := n0_; have BK289 := n1_; have GW289 := n2_; have GE289 := n3_; clear n0_ n1_ n2_ n3_; clear hb hbox hg) | ((with_reducible refine gate_dst (N := 4) rfl ?_); (try (refine gate_guard (by rfl) ?_; dsimp only)); refine box_event ?hg (N := 4) ?hd (cs := #[.string a1_0, .slice A1_1 l1_1.length c1_1, .int .i64 a1_2, .slice A1_3 l1_3.length c1_3]) (t := 49) ?hr ?_; (case hd => rfl); (case hg => rfl); (case hr => first | (go_simp; done) | (go_simp; rfl)); intro gb290 hg w5 hbox hb; have n0_ := Aside0.mk (blk_below (g := gb289) (o := .cells #[.slice A0_0 l0_0.length c0_0, .string a0_1, .slice A0_2 l0_2.length c0_2, .string a0_3, .bool a0_4, .int .i64 a0_5] 25 (0, 0)) (by (with_reducible repeat (first | refine blk_drewN ?_ _ | refine blk_drew ?_ | refine blk_alloc ?_ _)); exact BK289.out) hb); have n1_ := Aside0.mk (below_step (by repeat (first | (with_reducible first | exact HB.out | apply below_alloc | apply pw_below_drewN | apply below_drew1 | refine below_set ?_ GE289.out) | exact HB.out)) hb); have n2_ := Aside0.mk (hbox); have n3_ := Aside0.mk ((by rw [hg]; exact (below_size (by repeat (first | (with_reducible first | exact HB.out | apply below_alloc | apply pw_below_drewN | apply below_drew1 | refine below_set ?_ GE289.out) | exact HB.out))) : w.heap.size ≤ gb290)); have n4_ := Aside0.mk ((by rw [hg]; exact (below_size (by repeat (first | (with_reducible first | exact HB.out | apply below_alloc | apply pw_below_drewN | apply below_drew1 | refine below_set ?_ GE289.out) | exact HB.out))) : w.heap.size ≤ gb290)); have n5_ := Aside0.mk ((by rw [hg]; exact Nat.ne_of_lt (blk_lt (g := gb289) (o := .cells #[.slice A0_0 l0_0.length c0_0, .string a0_1, .slice A0_2 l0_2.length c0_2, .string a0_3, .bool a0_4, .int .i64 a0_5] 25 (0, 0)) (by (with_reducible repeat (first | refine blk_drewN ?_ _ | refine blk_drew ?_ | refine blk_alloc ?_ _)); exact BK289.out)) : gb289 ≠ gb290)); have n6_ := Aside0.mk ((by rw [hg]; exact Nat.ne_of_gt (blk_lt (g := gb289) (o := .cells #[.slice A0_0 l0_0.length c0_0, .string a0_1, .slice A0_2 l0_2.length c0_2, .string a0_3, .bool a0_4, .int .i64 a0_5] 25 (0, 0)) (by (with_reducible repeat (first | refine blk_drewN ?_ _ | refine blk_drew ?_ | refine blk_alloc ?_ _)); exact BK289.out)) : gb290 ≠ gb289)); clear BK289; clear HB; have BK289 := n0_; have HB := n1_; have BK290 := n2_; have GW290 := n3_; have GE290 := n4_; have NB289_290 := n5_; have NB290_289 := n6_; clear n0_ n1_ n2_ n3_ n4_ n5_ n6_; clear hb hbox hg))
 go_loopg [7, 14] k (fun kq v7 v14 w' => ∃ (x7_1 : List ByteArray) (x14_1 : Int), v14 = .int .i64 x14_1 ∧ Aside0 (query_Query_values.l0 kq x7_1 l2 (l2.length : Int) x14_1 l0_0 a0_1 l0_2 a0_3 a0_4 a0_5 a1_0 l1_1 a1_2 l1_3 = some r) ∧ Aside0 (kq ≤ k) ∧ Aside0 (Kd.R Kd.string 9 w' w.heap.size (fun _ => True) v7 x7_1) ∧ Aside0 (w'.heap[gb289]? = some (.cells #[(.slice A0_0 l0_0.length c0_0), .string a0_1, (.slice A0_2 l0_2.length c0_2), .string a0_3, .bool a0_4, .int .i64 a0_5] 25 (0, 0))) ∧ Aside0 (w'.heap[gb290]? = some (.cells #[.string a1_0, (.slice A1_1 l1_1.length c1_1), .int .i64 a1_2, (.slice A1_3 l1_3.length c1_3)] 49 (0, 0))) ∧ Aside0 (Below w.heap.size w w'))
 case atStart => exact ⟨(([] : List ByteArray)), (0), (by first | rfl | (simp; done) | (simp [*]; done)), H', ⟨Nat.le_refl _⟩, ⟨by first | exact Kd.R_nil _ _ _ _ _ | exact Kd.N_nil _ _ _ _ _ | exact Kd.V_nil _ _ _ _ _ | exact Kd.Q_nil _ _ _ _ _ | exact Kd.S_nil _ _ _ _ _⟩, ⟨by (with_reducible repeat (first | refine blk_drewN ?_ _ | refine blk_drew ?_ | refine blk_alloc ?_ _)); exact BK289.out⟩, ⟨by (with_reducible repeat (first | refine blk_drewN ?_ _ | refine blk_drew ?_ | refine blk_alloc ?_ _)); exact BK290.out⟩, ⟨by repeat (first | (with_reducible first | exact HB.out | apply below_alloc | apply pw_below_drewN | apply below_drew1 | refine below_set ?_ GE289.out | refine below_set ?_ GE290.out) | exact HB.out)⟩⟩
 case round =>
  clear H'
  try clear c2
  obtain ⟨x7_1, x14_1, rfl, HA, HK1, HO_7, BK289, BK290, HB⟩ := hrel
  cases gk with
  | zero => exact absurd HA.out (by simp [query_Query_values.l0])
  | succ k1 =>
   have H := HA.out
   clear HA
   simp only [query_Query_values.l0] at H
   by_cases c6 : x14_1 < (l2.length : Int)
   ·
    rw [if_pos c6] at H
    have c6b0 : decide (x14_1 < (l2.length : Int)) = true := decide_eq_true c6
    clear c6
    by_cases c7 : 0 ≤ x14_1
    ·
     rw [if_pos c7] at H
     have c7b0 : decide (0 ≤ x14_1) = true := decide_eq_true c7
     clear c7
     by_cases c8 : x14_1 < (l2.length : Int)
     ·
      rw [if_pos c8] at H
      have c8b0 : decide (x14_1 < (l2.length : Int)) = true := decide_eq_true c8
      clear c8
      have HC9 := Aside0.mk H
      clear H
      have p291 : 0 ≤ (x14_1 : Int) := of_decide_eq_true (by first | (with_reducible assumption) | assumption)
      have q291 : x14_1 < (l2.length : Int) := of_decide_eq_true (by first | (with_reducible assumption) | assumption)
      obtain ⟨ad291, e291, hx291_0⟩ := Kd.at_int HR2.out x14_1 p291 q291
      cases e291
      replace hx291_0 := (HB.out.cell (World.block_lt_of_cell? w _ hx291_0)).trans hx291_0
      replace p291 := eq_true p291
      replace q291 := eq_true q291
      go_upto_region 5 with (fail)
      go_cut [26] (fun v26 wc => ∃ (kq : Nat) (x26_8 : Bool), v26 = .bool x26_8 ∧ Aside0 (query_Query_values.j1 kq x7_1 (rd l2 x14_1) l2 (l2.length : Int) x14_1 x26_8 l0_0 a0_1 l0_2 a0_3 a0_4 a0_5 a1_0 l1_1 a1_2 l1_3 = some r) ∧ Aside0 (kq ≤ k1) ∧ Aside0 (Kd.R Kd.string 9 wc w.heap.size (fun _ => True) u7 x7_1) ∧ Aside0 (wc.heap[gb289]? = some (.cells #[(.slice A0_0 l0_0.length c0_0), .string a0_1, (.slice A0_2 l0_2.length c0_2), .string a0_3, .bool a0_4, .int .i64 a0_5] 25 (0, 0))) ∧ Aside0 (wc.heap[gb290]? = some (.cells #[.string a1_0, (.slice A1_1 l1_1.length c1_1), .int .i64 a1_2, (.slice A1_3 l1_3.length c1_3)] 49 (0, 0))) ∧ Aside0 (Below w.heap.size w wc))
      case first =>
       have H := HC9.out
       clear HC9
       by_cases c10 : (rd l2 x14_1) < 0
       ·
        rw [if_pos c10] at H
        have c10b0 : decide ((rd l2 x14_1) < 0) = true := decide_eq_true c10
        clear c10
        (first | rw [c10b0] | (simp only [i64_w, i32_w]; rw [c10b0]) | skip)
        have H' := Aside0.mk H
        clear H
        go_wp2
        go_meet
        case rel => exact ⟨_, (true), (by first | rfl | (simp; done) | (simp [*]; done)), H', ⟨by have := HK1.out; first | omega | exact Nat.le_refl _⟩, ⟨by (with_reducible repeat (first | apply Kd.R_alloc | apply Kd.R_drewN | apply Kd.R_drew)); exact HO_7.out⟩, ⟨by (with_reducible repeat (first | refine blk_drewN ?_ _ | refine blk_drew ?_ | refine blk_alloc ?_ _)); exact BK289.out⟩, ⟨by (with_reducible repeat (first | refine blk_drewN ?_ _ | refine blk_drew ?_ | refine blk_alloc ?_ _)); exact BK290.out⟩, ⟨by repeat (first | (with_reducible first | exact HB.out | apply below_alloc | apply pw_below_drewN | apply below_drew1 | refine below_set ?_ GE289.out | refine below_set ?_ GE290.out) | exact HB.out)⟩⟩
       ·
        rw [if_neg c10] at H
        have c10b0 : decide ((rd l2 x14_1) < 0) = false := decide_eq_false c10
        clear c10
        (first | rw [c10b0] | (simp only [i64_w, i32_w]; rw [c10b0]) | skip)
        have H' := Aside0.mk H
        clear H
        have hnb11 := NB290_289.out
        have hnc11 := NB289_290.out
        have hcz12_0 : wr.cell? ⟨gb290, 0, none⟩ = some (.string a1_0) := (blk_cell BK290.out 0).trans rfl
        have hcz12_1 : wr.cell? ⟨gb290, 1, none⟩ = some (.slice A1_1 l1_1.length c1_1) := (blk_cell BK290.out 1).trans rfl
        have hcz12_2 : wr.cell? ⟨gb290, 2, none⟩ = some (.int .i64 a1_2) := (blk_cell BK290.out 2).trans rfl
        have hcz12_3 : wr.cell? ⟨gb290, 3, none⟩ = some (.slice A1_3 l1_3.length c1_3) := (blk_cell BK290.out 3).trans rfl
        have hfz12_0 := blk_frozen BK290.out 0
        have hfz12_1 := blk_frozen BK290.out 1
        have hfz12_2 := blk_frozen BK290.out 2
        have hfz12_3 := blk_frozen BK290.out 3
        go_wp2
        go_meet
        case rel => exact ⟨_, (decide ((rd l2 x14_1) ≥ (l1_1.length : Int))), (by first | rfl | (simp; done) | (simp [*]; done)), H', ⟨by have := HK1.out; first | omega | exact Nat.le_refl _⟩, ⟨by (with_reducible repeat (first | apply Kd.R_alloc | apply Kd.R_drewN | apply Kd.R_drew)); exact HO_7.out⟩, ⟨by (with_reducible repeat (first | refine blk_drewN ?_ _ | refine blk_drew ?_ | refine blk_alloc ?_ _)); exact BK289.out⟩, ⟨by (with_reducible repeat (first | refine blk_drewN ?_ _ | refine blk_drew ?_ | refine blk_alloc ?_ _)); exact BK290.out⟩, ⟨by repeat (first | (with_reducible first | exact HB.out | apply below_alloc | apply pw_below_drewN | apply below_drew1 | refine below_set ?_ GE289.out | refine below_set ?_ GE290.out) | exact HB.out)⟩⟩
      case rest =>
       clear HC9
       try clear c6
       try clear c6b0
       try clear c7
       try clear c7b0
       try clear c8
       try clear c8b0
       try clear hx291_0
       try clear p291
       try clear q291
       obtain ⟨kq, x26_8, rfl, HA, HJ8, HO_7, BK289, BK290, HB⟩ := hcut
       cases kq with
       | zero => exact absurd HA.out (by simp [query_Query_values.j1])
       | succ kj8 =>
        have H := HA.out
        clear HA
        simp only [query_Query_values.j1] at H
        by_cases c13 : x26_8 = true
        ·
         subst c13
         have H1 : (some x7_1) = some r := by rw [if_pos rfl] at H; exact H
         clear H
         have H := H1
         clear H1
         obtain rfl := Option.some.inj H
         go_wp2
         go_ret
         exact ⟨_, by first | rfl | (simp [errW_none, errW_some] <;> rfl) | (simp [*, errW_none, errW_some] <;> rfl), by (with_reducible repeat (first | apply Kd.R_alloc | apply Kd.R_drewN | apply Kd.R_drew)); exact HO_7.out, by repeat (first | (with_reducible first | exact HB.out | apply below_alloc | apply pw_below_drewN | apply below_drew1 | refine below_set ?_ GE289.out | refine below_set ?_ GE290.out) | exact HB.out)⟩
        ·
         replace c13 := Bool.eq_false_iff.mpr c13
         subst c13
         have H1 : (if 0 ≤ (rd l2 x14_1) then (if (rd l2 x14_1) < (l1_1.length : Int) then ((query_Query_asked.f kj8 l0_0 a0_1 l0_2 a0_3 a0_4 a0_5 (rdOf ByteArray.empty l1_1 (rd l2 x14_1))).bind fun bt293 => (if bt293.2 = true then (if x7_1.length < 8796093022208 then (query_Query_values.l0 kj8 (x7_1 ++ [bt293.1]) l2 (l2.length : Int) (wrap64 (x14_1 + 1)) l0_0 a0_1 l0_2 a0_3 a0_4 a0_5 a1_0 l1_1 a1_2 l1_3) else (none)) else (some x7_1))) else (none)) else (none)) = some r := by rw [if_neg (show ¬ (false = true) by decide)] at H; exact H
         clear H
         have H := H1
         clear H1
         by_cases c14 : 0 ≤ (rd l2 x14_1)
         ·
          rw [if_pos c14] at H
          have c14b0 : decide (0 ≤ (rd l2 x14_1)) = true := decide_eq_true c14
          clear c14
          by_cases c15 : (rd l2 x14_1) < (l1_1.length : Int)
          ·
           rw [if_pos c15] at H
           have c15b0 : decide ((rd l2 x14_1) < (l1_1.length : Int)) = true := decide_eq_true c15
           clear c15
           replace H := Option.bind_eq_some_iff.mp H
           obtain ⟨⟨t293, t294⟩, A160, H⟩ := H
           replace H : (if t294 = true then (if x7_1.length < 8796093022208 then (query_Query_values.l0 kj8 (x7_1 ++ [t293]) l2 (l2.length : Int) (wrap64 (x14_1 + 1)) l0_0 a0_1 l0_2 a0_3 a0_4 a0_5 a1_0 l1_1 a1_2 l1_3) else (none)) else (some x7_1)) = some r := H
           have A16 := Aside0.mk A160
           clear A160
           by_cases c17 : t294 = true
           ·
            subst c17
            have H1 : (if x7_1.length < 8796093022208 then (query_Query_values.l0 kj8 (x7_1 ++ [t293]) l2 (l2.length : Int) (wrap64 (x14_1 + 1)) l0_0 a0_1 l0_2 a0_3 a0_4 a0_5 a1_0 l1_1 a1_2 l1_3) else (none)) = some r := by rw [if_pos rfl] at H; exact H
            clear H
            have H := H1
            clear H1
            by_cases c18 : x7_1.length < 8796093022208
            ·
             rw [if_pos c18] at H
             have LMc18 := Aside0.mk c18
             clear c18
             obtain ⟨y295, hy295⟩ : ∃ y_ : List ByteArray, y_ = (x7_1 ++ [t293]) := ⟨_, rfl⟩
             replace H : (query_Query_values.l0 kj8 y295 l2 (l2.length : Int) (wrap64 (x14_1 + 1)) l0_0 a0_1 l0_2 a0_3 a0_4 a0_5 a1_0 l1_1 a1_2 l1_3) = some r := by first | (rw [hy295]; with_reducible exact H) | (have H2_ := (Option.bind_some _ _).symm.trans H; rw [hy295]; with_reducible exact H2_) | (have H2_ := (Option.bind_some _ _).symm.trans H; with_reducible exact H2_) | with_reducible exact H | (rw [hy295]; exact H) | exact H
             have Ny295 := Aside0.mk hy295
             clear hy295
             have H' := Aside0.mk H
             clear H
             try go_wp2
             have n0_ := Aside0.mk (Kd.R_drew HO_7.out)
             have n1_ := Aside0.mk (blk_drew BK289.out)
             have n2_ := Aside0.mk (blk_drew BK290.out)
             have n3_ := Aside0.mk (below_drew1 HB.out)
             clear HO_7
             clear BK289
             clear BK290
             clear HB
             have HO_7 := n0_
             have BK289 := n1_
             have BK290 := n2_
             have HB := n3_
             clear n0_ n1_ n2_ n3_
             have p292 : 0 ≤ ((rd l2 x14_1) : Int) := of_decide_eq_true (by first | (with_reducible assumption) | assumption)
             have q292 : (rd l2 x14_1) < (l1_1.length : Int) := of_decide_eq_true (by first | (with_reducible assumption) | assumption)
             obtain ⟨ad292, e292, hx292_0⟩ := Kd.at_string HR1_1.out (rd l2 x14_1) p292 q292
             have hw292_0 := hx292_0
             cases e292
             replace hx292_0 := (HB.out.cell (World.block_lt_of_cell? w _ hx292_0)).trans hx292_0
             replace p292 := eq_true p292
             replace q292 := eq_true q292
             refine start_ (n := 12) (S := fun w' => w'.cell? ⟨gb289, 0, none⟩ = some (.slice A0_0 l0_0.length c0_0) ∧ w'.cell? ⟨gb289, 1, none⟩ = some (.string a0_1) ∧ w'.cell? ⟨gb289, 2, none⟩ = some (.slice A0_2 l0_2.length c0_2) ∧ w'.cell? ⟨gb289, 3, none⟩ = some (.string a0_3) ∧ w'.cell? ⟨gb289, 4, none⟩ = some (.bool a0_4) ∧ w'.cell? ⟨gb289, 5, none⟩ = some (.int .i64 a0_5) ∧ w'.cell? ⟨gb290, 0, none⟩ = some (.string a1_0) ∧ w'.cell? ⟨gb290, 1, none⟩ = some (.slice (some ad292) l1_1.length c1_1) ∧ w'.cell? ⟨gb290, 2, none⟩ = some (.int .i64 a1_2) ∧ w'.cell? ⟨gb290, 3, none⟩ = some (.slice A1_3 l1_3.length c1_3) ∧ w'.cell? (ad292.add ((rd l2 x14_1)).toNat) = some (.string (rdOf ByteArray.empty l1_1 (rd l2 x14_1)))) (ds := []) #[false, false, false, false, false, false, false, false, false, false, false, false] (by kernel_rfl) rfl rfl ⟨(blk_cell BK289.out 0).trans rfl, (blk_cell BK289.out 1).trans rfl, (blk_cell BK289.out 2).trans rfl, (blk_cell BK289.out 3).trans rfl, (blk_cell BK289.out 4).trans rfl, (blk_cell BK289.out 5).trans rfl, (blk_cell BK290.out 0).trans rfl, (blk_cell BK290.out 1).trans rfl, (blk_cell BK290.out 2).trans rfl, (blk_cell BK290.out 3).trans rfl, ((HB.out.cell (World.block_lt_of_cell? w _ hw292_0)).trans hw292_0)⟩ (fun hHeld => ?_); refine with_tabW query_Query_values.tab6 query_Query_values.bits6 (fun HT_ HW_ => ?_)
             generalize wc.drew = w19 at HO_7 BK289 BK290 HB hx292_0 hHeld ⊢
             refine pure_ (i := 1) (N := some 29) (v := ?_) (a' := ?_) #[false, true, false, false, false, false, false, false, false, false, false, false] rfl rfl (any_of HT_.out (by kernel_rfl)) (fun _ _ _ h => h) (Or.inl ⟨by rfl, ?_⟩) ?_ ?_
             rotate_left
             ·
              intro w'
              go_simp
              with_reducible rfl
             rotate_left
             ·
              simp only [Act.put, List.setIfInBounds_toArray, List.set_cons_zero, List.set_cons_succ, i64_w, i32_w]
              rfl
             refine pure_ (i := 3) (N := some 31) (v := ?_) (a' := ?_) #[false, true, false, true, false, false, false, false, false, false, false, false] rfl rfl (any_of HT_.out (by kernel_rfl)) (fun _ _ _ h => h) (Or.inl ⟨by rfl, ?_⟩) ?_ ?_
             rotate_left
             ·
              intro w'
              go_simp
              with_reducible rfl
             rotate_left
             ·
              simp only [Act.put, List.setIfInBounds_toArray, List.set_cons_zero, List.set_cons_succ, i64_w, i32_w]
              rfl
             refine take_ (i := 0) (N := some 28) (v := ?_) (a' := ?_) #[true, true, false, true, false, false, false, false, false, false, false, false] rfl rfl (take_ofW HT_.out HW_.out (by kernel_rfl)) (fun _ _ _ h => h) (Or.inl ⟨by rfl, ?_⟩) hHeld ?_ ?_
             rotate_left
             ·
              rintro w' ⟨s0, s1, s2, s3, s4, s5, s6, s7, s8, s9, s10⟩
              go_simp
              with_reducible rfl
             rotate_left
             ·
              simp only [Act.put, List.setIfInBounds_toArray, List.set_cons_zero, List.set_cons_succ, i64_w, i32_w]
              rfl
             refine take_ (i := 2) (N := some 30) (v := ?_) (a' := ?_) #[true, true, true, true, false, false, false, false, false, false, false, false] rfl rfl (take_ofW HT_.out HW_.out (by kernel_rfl)) (fun _ _ _ h => h) (Or.inl ⟨by rfl, ?_⟩) hHeld ?_ ?_
             rotate_left
             ·
              rintro w' ⟨s0, s1, s2, s3, s4, s5, s6, s7, s8, s9, s10⟩
              go_simp
              with_reducible rfl
             rotate_left
             ·
              simp only [Act.put, List.setIfInBounds_toArray, List.set_cons_zero, List.set_cons_succ, i64_w, i32_w]
              rfl
             refine pure_ (i := 4) (N := some 32) (v := ?_) (a' := ?_) #[true, true, true, true, true, false, false, false, false, false, false, false] rfl rfl (any_of HT_.out (by kernel_rfl)) (fun _ _ _ h => h) (Or.inl ⟨by rfl, ?_⟩) ?_ ?_
             rotate_left
             ·
              intro w'
              go_simp
              with_reducible rfl
             rotate_left
             ·
              simp only [Act.put, List.setIfInBounds_toArray, List.set_cons_zero, List.set_cons_succ, i64_w, i32_w]
              rfl
             refine take_ (i := 5) (N := some 33) (v := ?_) (a' := ?_) #[true, true, true, true, true, true, false, false, false, false, false, false] rfl rfl (take_ofW HT_.out HW_.out (by kernel_rfl)) (fun _ _ _ h => h) (Or.inl ⟨by rfl, ?_⟩) hHeld ?_ ?_
             rotate_left
             ·
              rintro w' ⟨s0, s1, s2, s3, s4, s5, s6, s7, s8, s9, s10⟩
              go_simp
              with_reducible rfl
             rotate_left
             ·
              simp only [Act.put, List.setIfInBounds_toArray, List.set_cons_zero, List.set_cons_succ, i64_w, i32_w]
              rfl
             refine one_ (i := 6) (N := some 34) #[true, true, true, true, true, true, true, false, false, false, false, false] rfl rfl (one_of HT_.out (by kernel_rfl)) (by decide) (fun K hK => ?_)
             refine goes_ Tryz.func81 (by kernel_rfl) rfl #[.agg #[.slice A0_0 l0_0.length c0_0, .string a0_1, .slice A0_2 l0_2.length c0_2, .string a0_3, .bool a0_4, .int .i64 a0_5], .string (rdOf ByteArray.empty l1_1 (rd l2 x14_1))] (by rfl) rfl rfl (by (try simp only [List.map_toArray, List.map_cons, List.map_nil]); first | done | rfl | (simp only [List.length_drop, List.length_take]; rfl)) ?_
             with_reducible refine (query_Query_asked.calls kj8 _ _ l0_0 a0_1 _ _ l0_2 a0_3 a0_4 a0_5 (rdOf ByteArray.empty l1_1 (rd l2 x14_1)) t293 true _ ?side1 ?side2 ?side3 ?side4 A16.out).mono ?_
             (case side1 => repeat (first | exact (Kd.C_below HR0_0.out HB.out) | (with_reducible refine Kd.C_alloc ?_ _) | (with_reducible refine Kd.C_drewN ?_ _) | (with_reducible refine Kd.C_drew ?_)))
             (case side2 => exact HC0_0.out)
             (case side3 => repeat (first | exact (Kd.C_below HR0_2.out HB.out) | (with_reducible refine Kd.C_alloc ?_ _) | (with_reducible refine Kd.C_drewN ?_ _) | (with_reducible refine Kd.C_drew ?_)))
             (case side4 => exact HC0_2.out)
             rintro e w20 ⟨rfl, hb⟩
             refine ⟨_, rfl, ?_⟩
             have n0_ := Aside0.mk (Kd.R_below (by (with_reducible repeat (first | apply Kd.R_alloc | apply Kd.R_drewN | apply Kd.R_drew)); exact HO_7.out) hb)
             have n1_ := Aside0.mk (blk_below (g := gb289) (o := .cells #[.slice A0_0 l0_0.length c0_0, .string a0_1, .slice A0_2 l0_2.length c0_2, .string a0_3, .bool a0_4, .int .i64 a0_5] 25 (0, 0)) (by (with_reducible repeat (first | refine blk_drewN ?_ _ | refine blk_drew ?_ | refine blk_alloc ?_ _)); exact BK289.out) hb)
             have n2_ := Aside0.mk (blk_below (g := gb290) (o := .cells #[.string a1_0, .slice (some ad292) l1_1.length c1_1, .int .i64 a1_2, .slice A1_3 l1_3.length c1_3] 49 (0, 0)) (by (with_reducible repeat (first | refine blk_drewN ?_ _ | refine blk_drew ?_ | refine blk_alloc ?_ _)); exact BK290.out) hb)
             have n3_ := Aside0.mk (below_step (by repeat (first | (with_reducible first | exact HB.out | apply below_alloc | apply pw_below_drewN | apply below_drew1 | refine below_set ?_ GE289.out | refine below_set ?_ GE290.out) | exact HB.out)) hb)
             clear HO_7
             clear BK289
             clear BK290
             clear HB
             have HO_7 := n0_
             have BK289 := n1_
             have BK290 := n2_
             have HB := n3_
             clear n0_ n1_ n2_ n3_
             (try clear hb)
             (try clear hb2)
             (try clear hk)
             (try clear hi)
             refine hK.out _ _ ⟨(blk_cell BK289.out 0).trans rfl, (blk_cell BK289.out 1).trans rfl, (blk_cell BK289.out 2).trans rfl, (blk_cell BK289.out 3).trans rfl, (blk_cell BK289.out 4).trans rfl, (blk_cell BK289.out 5).trans rfl, (blk_cell BK290.out 0).trans rfl, (blk_cell BK290.out 1).trans rfl, (blk_cell BK290.out 2).trans rfl, (blk_cell BK290.out 3).trans rfl, ((HB.out.cell (World.block_lt_of_cell? w _ hw292_0)).trans hw292_0)⟩ (fun hHeld => ?_)
             clear hK K
             refine norm_ (a' := ?_) ?_ ?_
             rotate_left
             ·
              show Act.put _ (some 34) _ = _
              simp only [Act.put, List.setIfInBounds_toArray, List.set_cons_zero, List.set_cons_succ, i64_w, i32_w]
              rfl
             refine pure_ (i := 7) (N := some 27) (v := ?_) (a' := ?_) #[true, true, true, true, true, true, true, true, false, false, false, false] rfl rfl (any_of HT_.out (by kernel_rfl)) (fun _ _ _ h => h) (Or.inl ⟨by rfl, ?_⟩) ?_ ?_
             rotate_left
             ·
              intro w'
              go_simp
              with_reducible rfl
             rotate_left
             ·
              simp only [Act.put, List.setIfInBounds_toArray, List.set_cons_zero, List.set_cons_succ, i64_w, i32_w]
              rfl
             refine pure_ (i := 8) (N := some 35) (v := ?_) (a' := ?_) #[true, true, true, true, true, true, true, true, true, false, false, false] rfl rfl (any_of HT_.out (by kernel_rfl)) (fun _ _ _ h => h) (Or.inl ⟨by rfl, ?_⟩) ?_ ?_
             rotate_left
             ·
              intro w'
              go_simp
              with_reducible rfl
             rotate_left
             ·
              simp only [Act.put, List.setIfInBounds_toArray, List.set_cons_zero, List.set_cons_succ, i64_w, i32_w]
              rfl
             refine pure_ (i := 9) (N := some 36) (v := ?_) (a' := ?_) #[true, true, true, true, true, true, true, true, true, true, false, false] rfl rfl (any_of HT_.out (by kernel_rfl)) (fun _ _ _ h => h) (Or.inl ⟨by rfl, ?_⟩) ?_ ?_
             rotate_left
             ·
              intro w'
              go_simp
              with_reducible rfl
             rotate_left
             ·
              simp only [Act.put, List.setIfInBounds_toArray, List.set_cons_zero, List.set_cons_succ, i64_w, i32_w]
              rfl
             refine pure_ (i := 10) (N := some 10) (v := ?_) (a' := ?_) #[true, true, true, true, true, true, true, true, true, true, true, false] rfl rfl (any_of HT_.out (by kernel_rfl)) (fun _ _ _ h => h) (Or.inl ⟨by rfl, ?_⟩) ?_ ?_
             rotate_left
             ·
              intro w'
              go_simp
              with_reducible rfl
             rotate_left
             ·
              simp only [Act.put, List.setIfInBounds_toArray, List.set_cons_zero, List.set_cons_succ, i64_w, i32_w]
              rfl
             refine pure_ (i := 11) (N := some 11) (v := ?_) (a' := ?_) #[true, true, true, true, true, true, true, true, true, true, true, true] rfl rfl (any_of HT_.out (by kernel_rfl)) (fun _ _ _ h => h) (Or.inl ⟨by rfl, ?_⟩) ?_ ?_
             rotate_left
             ·
              intro w'
              go_simp
              with_reducible rfl
             rotate_left
             ·
              simp only [Act.put, List.setIfInBounds_toArray, List.set_cons_zero, List.set_cons_succ, i64_w, i32_w]
              rfl
             refine done_ (done_of HT_.out (by kernel_rfl)) ?_
             try go_wp2_with (first | ((with_reducible refine gate_builtin (b := .append) (xs := #[.tmp 39, .tmp 41]) rfl ?_); (try (refine gate_guard (by rfl) ?_; dsimp only)); at_builtin; refine Kd.R_append Kd.string (w0 := w) w.heap.size rfl (.tmp 39) (.tmp 41) 22 9 (.string ⟨#[]⟩) 16 rfl Tryz.underlying22 info9 rfl (by decide) (by omega) u7 x7_1 t293 [.string t293] (fun _ => True) (fun _ => False) rfl rfl ?aP (fun _ hk => hk.elim) ?aF ?aO ?aB ?aS ?aL ?_; (case aP => exact rfl); (case aB => exact (by repeat (first | (with_reducible first | exact HB.out | apply below_alloc | apply pw_below_drewN | apply below_drew1 | refine below_set ?_ GE289.out | refine below_set ?_ GE290.out) | exact HB.out))); (case aF => exact (fun _ _ => trivial)); (case aO => exact (by (with_reducible repeat (first | apply Kd.R_alloc | apply Kd.R_drewN | apply Kd.R_drew)); exact HO_7.out)); (case aS => exact (below_size (by repeat (first | (with_reducible first | exact HB.out | apply below_alloc | apply pw_below_drewN | apply below_drew1 | refine below_set ?_ GE289.out | refine below_set ?_ GE290.out) | exact HB.out)))); (case aL => have := LMc18.out; omega); intro v296 w21 ho hb hg hat; rw [← Ny295.out] at ho; have n0_ := Aside0.mk (blk_grown (g := gb289) (o := .cells #[.slice A0_0 l0_0.length c0_0, .string a0_1, .slice A0_2 l0_2.length c0_2, .string a0_3, .bool a0_4, .int .i64 a0_5] 25 (0, 0)) (by (with_reducible repeat (first | refine blk_drewN ?_ _ | refine blk_drew ?_ | refine blk_alloc ?_ _)); exact BK289.out) hg (Kd.R_ne HO_7.out BK289.out (by decide))); have n1_ := Aside0.mk (blk_grown (g := gb290) (o := .cells #[.string a1_0, .slice (some ad292) l1_1.length c1_1, .int .i64 a1_2, .slice A1_3 l1_3.length c1_3] 49 (0, 0)) (by (with_reducible repeat (first | refine blk_drewN ?_ _ | refine blk_drew ?_ | refine blk_alloc ?_ _)); exact BK290.out) hg (Kd.R_ne HO_7.out BK290.out (by decide))); have n2_ := Aside0.mk (hb); have n3_ := Aside0.mk (ho); clear BK289; clear BK290; clear HB; clear HO_7; have BK289 := n0_; have BK290 := n1_; have HB := n2_; have HO297 := n3_; clear n0_ n1_ n2_ n3_; clear ho hb hg hat))
             go_roundg kj8
             case measure => have := HK1.out; have := HJ8.out; omega
             case rel => exact ⟨(y295), (wrap64 (x14_1 + 1)), (by first | rfl | (simp; done) | (simp [*]; done)), H', ⟨by have := HK1.out; have := HJ8.out; omega⟩, ⟨by (with_reducible repeat (first | apply Kd.R_alloc | apply Kd.R_drewN | apply Kd.R_drew)); exact HO297.out⟩, ⟨by (with_reducible repeat (first | refine blk_drewN ?_ _ | refine blk_drew ?_ | refine blk_alloc ?_ _)); exact BK289.out⟩, ⟨by (with_reducible repeat (first | refine blk_drewN ?_ _ | refine blk_drew ?_ | refine blk_alloc ?_ _)); exact BK290.out⟩, ⟨by repeat (first | (with_reducible first | exact HB.out | apply below_alloc | apply pw_below_drewN | apply below_drew1 | refine below_set ?_ GE289.out | refine below_set ?_ GE290.out) | exact HB.out)⟩⟩
            ·
             rw [if_neg c18] at H
             exact absurd H (by simp)
           ·
            replace c17 := Bool.eq_false_iff.mpr c17
            subst c17
            have H1 : (some x7_1) = some r := by rw [if_neg (show ¬ (false = true) by decide)] at H; exact H
            clear H
            have H := H1
            clear H1
            obtain rfl := Option.some.inj H
            try go_wp2
            have n0_ := Aside0.mk (Kd.R_drew HO_7.out)
            have n1_ := Aside0.mk (blk_drew BK289.out)
            have n2_ := Aside0.mk (blk_drew BK290.out)
            have n3_ := Aside0.mk (below_drew1 HB.out)
            clear HO_7
            clear BK289
            clear BK290
            clear HB
            have HO_7 := n0_
            have BK289 := n1_
            have BK290 := n2_
            have HB := n3_
            clear n0_ n1_ n2_ n3_
            have p292 : 0 ≤ ((rd l2 x14_1) : Int) := of_decide_eq_true (by first | (with_reducible assumption) | assumption)
            have q292 : (rd l2 x14_1) < (l1_1.length : Int) := of_decide_eq_true (by first | (with_reducible assumption) | assumption)
            obtain ⟨ad292, e292, hx292_0⟩ := Kd.at_string HR1_1.out (rd l2 x14_1) p292 q292
            have hw292_0 := hx292_0
            cases e292
            replace hx292_0 := (HB.out.cell (World.block_lt_of_cell? w _ hx292_0)).trans hx292_0
            replace p292 := eq_true p292
            replace q292 := eq_true q292
            refine start_ (n := 12) (S := fun w' => w'.cell? ⟨gb289, 0, none⟩ = some (.slice A0_0 l0_0.length c0_0) ∧ w'.cell? ⟨gb289, 1, none⟩ = some (.string a0_1) ∧ w'.cell? ⟨gb289, 2, none⟩ = some (.slice A0_2 l0_2.length c0_2) ∧ w'.cell? ⟨gb289, 3, none⟩ = some (.string a0_3) ∧ w'.cell? ⟨gb289, 4, none⟩ = some (.bool a0_4) ∧ w'.cell? ⟨gb289, 5, none⟩ = some (.int .i64 a0_5) ∧ w'.cell? ⟨gb290, 0, none⟩ = some (.string a1_0) ∧ w'.cell? ⟨gb290, 1, none⟩ = some (.slice (some ad292) l1_1.length c1_1) ∧ w'.cell? ⟨gb290, 2, none⟩ = some (.int .i64 a1_2) ∧ w'.cell? ⟨gb290, 3, none⟩ = some (.slice A1_3 l1_3.length c1_3) ∧ w'.cell? (ad292.add ((rd l2 x14_1)).toNat) = some (.string (rdOf ByteArray.empty l1_1 (rd l2 x14_1)))) (ds := []) #[false, false, false, false, false, false, false, false, false, false, false, false] (by kernel_rfl) rfl rfl ⟨(blk_cell BK289.out 0).trans rfl, (blk_cell BK289.out 1).trans rfl, (blk_cell BK289.out 2).trans rfl, (blk_cell BK289.out 3).trans rfl, (blk_cell BK289.out 4).trans rfl, (blk_cell BK289.out 5).trans rfl, (blk_cell BK290.out 0).trans rfl, (blk_cell BK290.out 1).trans rfl, (blk_cell BK290.out 2).trans rfl, (blk_cell BK290.out 3).trans rfl, ((HB.out.cell (World.block_lt_of_cell? w _ hw292_0)).trans hw292_0)⟩ (fun hHeld => ?_); refine with_tabW query_Query_values.tab6 query_Query_values.bits6 (fun HT_ HW_ => ?_)
            generalize wc.drew = w22 at HO_7 BK289 BK290 HB hx292_0 hHeld ⊢
            refine pure_ (i := 1) (N := some 29) (v := ?_) (a' := ?_) #[false, true, false, false, false, false, false, false, false, false, false, false] rfl rfl (any_of HT_.out (by kernel_rfl)) (fun _ _ _ h => h) (Or.inl ⟨by rfl, ?_⟩) ?_ ?_
            rotate_left
            ·
             intro w'
             go_simp
             with_reducible rfl
            rotate_left
            ·
             simp only [Act.put, List.setIfInBounds_toArray, List.set_cons_zero, List.set_cons_succ, i64_w, i32_w]
             rfl
            refine pure_ (i := 3) (N := some 31) (v := ?_) (a' := ?_) #[false, true, false, true, false, false, false, false, false, false, false, false] rfl rfl (any_of HT_.out (by kernel_rfl)) (fun _ _ _ h => h) (Or.inl ⟨by rfl, ?_⟩) ?_ ?_
            rotate_left
            ·
             intro w'
             go_simp
             with_reducible rfl
            rotate_left
            ·
             simp only [Act.put, List.setIfInBounds_toArray, List.set_cons_zero, List.set_cons_succ, i64_w, i32_w]
             rfl
            refine take_ (i := 0) (N := some 28) (v := ?_) (a' := ?_) #[true, true, false, true, false, false, false, false, false, false, false, false] rfl rfl (take_ofW HT_.out HW_.out (by kernel_rfl)) (fun _ _ _ h => h) (Or.inl ⟨by rfl, ?_⟩) hHeld ?_ ?_
            rotate_left
            ·
             rintro w' ⟨s0, s1, s2, s3, s4, s5, s6, s7, s8, s9, s10⟩
             go_simp
             with_reducible rfl
            rotate_left
            ·
             simp only [Act.put, List.setIfInBounds_toArray, List.set_cons_zero, List.set_cons_succ, i64_w, i32_w]
             rfl
            refine take_ (i := 2) (N := some 30) (v := ?_) (a' := ?_) #[true, true, true, true, false, false, false, false, false, false, false, false] rfl rfl (take_ofW HT_.out HW_.out (by kernel_rfl)) (fun _ _ _ h => h) (Or.inl ⟨by rfl, ?_⟩) hHeld ?_ ?_
            rotate_left
            ·
             rintro w' ⟨s0, s1, s2, s3, s4, s5, s6, s7, s8, s9, s10⟩
             go_simp
             with_reducible rfl
            rotate_left
            ·
             simp only [Act.put, List.setIfInBounds_toArray, List.set_cons_zero, List.set_cons_succ, i64_w, i32_w]
             rfl
            refine pure_ (i := 4) (N := some 32) (v := ?_) (a' := ?_) #[true, true, true, true, true, false, false, false, false, false, false, false] rfl rfl (any_of HT_.out (by kernel_rfl)) (fun _ _ _ h => h) (Or.inl ⟨by rfl, ?_⟩) ?_ ?_
            rotate_left
            ·
             intro w'
             go_simp
             with_reducible rfl
            rotate_left
            ·
             simp only [Act.put, List.setIfInBounds_toArray, List.set_cons_zero, List.set_cons_succ, i64_w, i32_w]
             rfl
            refine take_ (i := 5) (N := some 33) (v := ?_) (a' := ?_) #[true, true, true, true, true, true, false, false, false, false, false, false] rfl rfl (take_ofW HT_.out HW_.out (by kernel_rfl)) (fun _ _ _ h => h) (Or.inl ⟨by rfl, ?_⟩) hHeld ?_ ?_
            rotate_left
            ·
             rintro w' ⟨s0, s1, s2, s3, s4, s5, s6, s7, s8, s9, s10⟩
             go_simp
             with_reducible rfl
            rotate_left
            ·
             simp only [Act.put, List.setIfInBounds_toArray, List.set_cons_zero, List.set_cons_succ, i64_w, i32_w]
             rfl
            refine one_ (i := 6) (N := some 34) #[true, true, true, true, true, true, true, false, false, false, false, false] rfl rfl (one_of HT_.out (by kernel_rfl)) (by decide) (fun K hK => ?_)
            refine goes_ Tryz.func81 (by kernel_rfl) rfl #[.agg #[.slice A0_0 l0_0.length c0_0, .string a0_1, .slice A0_2 l0_2.length c0_2, .string a0_3, .bool a0_4, .int .i64 a0_5], .string (rdOf ByteArray.empty l1_1 (rd l2 x14_1))] (by rfl) rfl rfl (by (try simp only [List.map_toArray, List.map_cons, List.map_nil]); first | done | rfl | (simp only [List.length_drop, List.length_take]; rfl)) ?_
            with_reducible refine (query_Query_asked.calls kj8 _ _ l0_0 a0_1 _ _ l0_2 a0_3 a0_4 a0_5 (rdOf ByteArray.empty l1_1 (rd l2 x14_1)) t293 false _ ?side1 ?side2 ?side3 ?side4 A16.out).mono ?_
            (case side1 => repeat (first | exact (Kd.C_below HR0_0.out HB.out) | (with_reducible refine Kd.C_alloc ?_ _) | (with_reducible refine Kd.C_drewN ?_ _) | (with_reducible refine Kd.C_drew ?_)))
            (case side2 => exact HC0_0.out)
            (case side3 => repeat (first | exact (Kd.C_below HR0_2.out HB.out) | (with_reducible refine Kd.C_alloc ?_ _) | (with_reducible refine Kd.C_drewN ?_ _) | (with_reducible refine Kd.C_drew ?_)))
            (case side4 => exact HC0_2.out)
            rintro e w23 ⟨rfl, hb⟩
            refine ⟨_, rfl, ?_⟩
            have n0_ := Aside0.mk (Kd.R_below (by (with_reducible repeat (first | apply Kd.R_alloc | apply Kd.R_drewN | apply Kd.R_drew)); exact HO_7.out) hb)
            have n1_ := Aside0.mk (blk_below (g := gb289) (o := .cells #[.slice A0_0 l0_0.length c0_0, .string a0_1, .slice A0_2 l0_2.length c0_2, .string a0_3, .bool a0_4, .int .i64 a0_5] 25 (0, 0)) (by (with_reducible repeat (first | refine blk_drewN ?_ _ | refine blk_drew ?_ | refine blk_alloc ?_ _)); exact BK289.out) hb)
            have n2_ := Aside0.mk (blk_below (g := gb290) (o := .cells #[.string a1_0, .slice (some ad292) l1_1.length c1_1, .int .i64 a1_2, .slice A1_3 l1_3.length c1_3] 49 (0, 0)) (by (with_reducible repeat (first | refine blk_drewN ?_ _ | refine blk_drew ?_ | refine blk_alloc ?_ _)); exact BK290.out) hb)
            have n3_ := Aside0.mk (below_step (by repeat (first | (with_reducible first | exact HB.out | apply below_alloc | apply pw_below_drewN | apply below_drew1 | refine below_set ?_ GE289.out | refine below_set ?_ GE290.out) | exact HB.out)) hb)
            clear HO_7
            clear BK289
            clear BK290
            clear HB
            have HO_7 := n0_
            have BK289 := n1_
            have BK290 := n2_
            have HB := n3_
            clear n0_ n1_ n2_ n3_
            (try clear hb)
            (try clear hb2)
            (try clear hk)
            (try clear hi)
            refine hK.out _ _ ⟨(blk_cell BK289.out 0).trans rfl, (blk_cell BK289.out 1).trans rfl, (blk_cell BK289.out 2).trans rfl, (blk_cell BK289.out 3).trans rfl, (blk_cell BK289.out 4).trans rfl, (blk_cell BK289.out 5).trans rfl, (blk_cell BK290.out 0).trans rfl, (blk_cell BK290.out 1).trans rfl, (blk_cell BK290.out 2).trans rfl, (blk_cell BK290.out 3).trans rfl, ((HB.out.cell (World.block_lt_of_cell? w _ hw292_0)).trans hw292_0)⟩ (fun hHeld => ?_)
            clear hK K
            refine norm_ (a' := ?_) ?_ ?_
            rotate_left
            ·
             show Act.put _ (some 34) _ = _
             simp only [Act.put, List.setIfInBounds_toArray, List.set_cons_zero, List.set_cons_succ, i64_w, i32_w]
             rfl
            refine pure_ (i := 7) (N := some 27) (v := ?_) (a' := ?_) #[true, true, true, true, true, true, true, true, false, false, false, false] rfl rfl (any_of HT_.out (by kernel_rfl)) (fun _ _ _ h => h) (Or.inl ⟨by rfl, ?_⟩) ?_ ?_
            rotate_left
            ·
             intro w'
             go_simp
             with_reducible rfl
            rotate_left
            ·
             simp only [Act.put, List.setIfInBounds_toArray, List.set_cons_zero, List.set_cons_succ, i64_w, i32_w]
             rfl
            refine pure_ (i := 8) (N := some 35) (v := ?_) (a' := ?_) #[true, true, true, true, true, true, true, true, true, false, false, false] rfl rfl (any_of HT_.out (by kernel_rfl)) (fun _ _ _ h => h) (Or.inl ⟨by rfl, ?_⟩) ?_ ?_
            rotate_left
            ·
             intro w'
             go_simp
             with_reducible rfl
            rotate_left
            ·
             simp only [Act.put, List.setIfInBounds_toArray, List.set_cons_zero, List.set_cons_succ, i64_w, i32_w]
             rfl
            refine pure_ (i := 9) (N := some 36) (v := ?_) (a' := ?_) #[true, true, true, true, true, true, true, true, true, true, false, false] rfl rfl (any_of HT_.out (by kernel_rfl)) (fun _ _ _ h => h) (Or.inl ⟨by rfl, ?_⟩) ?_ ?_
            rotate_left
            ·
             intro w'
             go_simp
             with_reducible rfl
            rotate_left
            ·
             simp only [Act.put, List.setIfInBounds_toArray, List.set_cons_zero, List.set_cons_succ, i64_w, i32_w]
             rfl
            refine pure_ (i := 10) (N := some 10) (v := ?_) (a' := ?_) #[true, true, true, true, true, true, true, true, true, true, true, false] rfl rfl (any_of HT_.out (by kernel_rfl)) (fun _ _ _ h => h) (Or.inl ⟨by rfl, ?_⟩) ?_ ?_
            rotate_left
            ·
             intro w'
             go_simp
             with_reducible rfl
            rotate_left
            ·
             simp only [Act.put, List.setIfInBounds_toArray, List.set_cons_zero, List.set_cons_succ, i64_w, i32_w]
             rfl
            refine pure_ (i := 11) (N := some 11) (v := ?_) (a' := ?_) #[true, true, true, true, true, true, true, true, true, true, true, true] rfl rfl (any_of HT_.out (by kernel_rfl)) (fun _ _ _ h => h) (Or.inl ⟨by rfl, ?_⟩) ?_ ?_
            rotate_left
            ·
             intro w'
             go_simp
             with_reducible rfl
            rotate_left
            ·
             simp only [Act.put, List.setIfInBounds_toArray, List.set_cons_zero, List.set_cons_succ, i64_w, i32_w]
             rfl
            refine done_ (done_of HT_.out (by kernel_rfl)) ?_
            try go_wp2
            go_ret
            exact ⟨_, by first | rfl | (simp [errW_none, errW_some] <;> rfl) | (simp [*, errW_none, errW_some] <;> rfl), by (with_reducible repeat (first | apply Kd.R_alloc | apply Kd.R_drewN | apply Kd.R_drew)); exact HO_7.out, by repeat (first | (with_reducible first | exact HB.out | apply below_alloc | apply pw_below_drewN | apply below_drew1 | refine below_set ?_ GE289.out | refine below_set ?_ GE290.out) | exact HB.out)⟩
          ·
           rw [if_neg c15] at H
           exact absurd H (by simp)
         ·
          rw [if_neg c14] at H
          exact absurd H (by simp)
     ·
      rw [if_neg c8] at H
      exact absurd H (by simp)
    ·
     rw [if_neg c7] at H
     exact absurd H (by simp)
   ·
    rw [if_neg c6] at H
    have c6b0 : decide (x14_1 < (l2.length : Int)) = false := decide_eq_false c6
    clear c6
    obtain rfl := Option.some.inj H
    go_wp2
    go_ret
    exact ⟨_, by first | rfl | (simp [errW_none, errW_some] <;> rfl) | (simp [*, errW_none, errW_some] <;> rfl), by (with_reducible repeat (first | apply Kd.R_alloc | apply Kd.R_drewN | apply Kd.R_drew)); exact HO_7.out, by repeat (first | (with_reducible first | exact HB.out | apply below_alloc | apply pw_below_drewN | apply below_drew1 | refine below_set ?_ GE289.out | refine below_set ?_ GE290.out) | exact HB.out)⟩
end Go.Proofs.YthhemephaabblaaGreatDoor.Q
