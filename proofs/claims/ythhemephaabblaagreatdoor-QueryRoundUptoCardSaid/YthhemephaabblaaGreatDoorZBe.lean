/- Parts of the proof: (*query.reader).step: the next token. -/
import Derived.Test.YthhemephaabblaaGreatDoorZBc
import Derived.Test.YthhemephaabblaaGreatDoorZBd
namespace Go.Proofs.YthhemephaabblaaGreatDoor.Hq
open Go.RowKit Go.Proofs.YthhemephaabblaaGreatDoorW.PrintWords Go.Proofs.YthhemephaabblaaGreatDoorW.PrintLast Go.Proofs.YthhemephaabblaaGreatDoorW.PrintMore Go.Proofs.YthhemephaabblaaGreatDoor Go.Proofs.YthhemephaabblaaGreatDoor.Q
set_option linter.unusedVariables false
set_option linter.unusedSimpArgs false

/-- What 'step' leaves: behind the blanks the end, a word, a number, a value, or a sign. -/
def stepF (k : Nat) (s : List UInt8) (en : Nat) (s0_2 : Int) (s0_3 : ByteArray) (s0_4 : Int) (s0_5 : Value) (s0_6 : ByteArray) (s0_7 : Value) (s0_8 : ByteArray) (s0_9 : Bool) (s0_10 : Int) : Option (ByteArray × Int × Int × ByteArray × Int × ByteArray × ByteArray × Bool × Int) :=
  match s[runEnd isSp s en]? with
  | none => some (strB s, (runEnd isSp s en : Nat), 0, ⟨#[]⟩, (runEnd isSp s en : Nat), s0_6, s0_8, s0_9, s0_10)
  | some c =>
    if isSm c = true then some (strB s, (runEnd isWd s (runEnd isSp s en) : Nat), 2, strB ((s.drop (runEnd isSp s en)).takeWhile isWd), (runEnd isSp s en : Nat), s0_6, s0_8, s0_9, s0_10)
    else if isDg c = true then some (strB s, (runEnd isDg s (runEnd isSp s en) : Nat), 3, strB ((s.drop (runEnd isSp s en)).takeWhile isDg), (runEnd isSp s en : Nat), s0_6, s0_8, s0_9, s0_10)
    else if c = 34 then query_reader_quoted.f k (strB s) en s0_2 s0_3 s0_4 s0_5 s0_6 s0_7 s0_8 s0_9 s0_10 (runEnd isSp s en : Nat)
    else query_reader_signed.f k (strB s) en s0_2 s0_3 s0_4 s0_5 s0_6 s0_7 s0_8 s0_9 s0_10 (runEnd isSp s en : Nat)

theorem strB_run (p : UInt8 → Bool) (s : List UInt8) (a : Nat) : (strB s).extract a (runEnd p s a) = strB ((s.drop a).takeWhile p) := by
  apply ByteArray.ext
  rw [ByteArray.data_extract]
  show s.toArray.extract a (runEnd p s a) = ((s.drop a).takeWhile p).toArray
  rw [List.extract_toArray]
  congr 1
  rw [List.extract_eq_take_drop]
  unfold runEnd
  rw [Nat.add_sub_cancel_left]
  exact (List.prefix_iff_eq_take.1 (List.takeWhile_prefix p)).symm

set_option maxRecDepth 100000 in
set_option maxHeartbeats 3200000 in
theorem step_calls (k : Nat) (g : Nat) (s : List UInt8) (en : Nat) (s0_2 : Int) (s0_3 : ByteArray) (s0_4 : Int) (s0_5 : Value) (s0_6 : ByteArray) (s0_7 : Value) (s0_8 : ByteArray) (s0_9 : Bool) (s0_10 : Int) (r1 : ByteArray) (r2 : Int) (r3 : Int) (r4 : ByteArray) (r5 : Int) (r6 : ByteArray) (r7 : ByteArray) (r8 : Bool) (r9 : Int) (w0 w : World) (hI : IsS60 w0 w g (strB s) en s0_2 s0_3 s0_4 s0_5 s0_6 s0_7 s0_8 s0_9 s0_10) (hB : Below w0.heap.size w0 w) (hen : en ≤ s.length) (hs : s.length ≤ 1000000000000)
    (h : stepF k s en s0_2 s0_3 s0_4 s0_5 s0_6 s0_7 s0_8 s0_9 s0_10 = some (r1, r2, r3, r4, r5, r6, r7, r8, r9)) :
    Calls Tryz.prog 44 #[.pointer (some ⟨g, 0, none⟩)] w fun e w' => e = .returned (.tuple #[]) ∧ IsS60 w0 w' g r1 r2 r3 r4 r5 s0_5 r6 s0_7 r7 r8 r9 ∧ Below w0.heap.size w0 w' ∧ KeepBut w w' g none := by
  obtain ⟨HG, hg⟩ := hI
  have k0 := cellS60_0 HG
  have k1 := cellS60_1 HG
  have hsz := strB_size s
  obtain ⟨a, ha⟩ : ∃ a, a = runEnd isSp s en := ⟨_, rfl⟩
  have hal : a ≤ s.length := by rw [ha]; exact runEnd_le _ _ _ hen
  have r63 := run63 g s en w k0 hen hs
  rw [← ha] at r63
  unfold stepF at h
  rw [← ha] at h
  have H := Aside0.mk h
  clear h ha
  by_cases hl : a = s.length
  · subst hl
    have hn : s[s.length]? = none := List.getElem?_eq_none (by omega)
    have h := H.out
    rw [hn] at h
    simp only [Option.some.injEq, Prod.mk.injEq] at h
    obtain ⟨rfl, rfl, rfl, rfl, rfl, rfl, rfl, rfl, rfl⟩ := h
    have hb : ((s.length : Int) == (s.length : Int)) = true := by simp
    clear H hn
    go_enter Tryz.func44, Tryz.ntmps44
    go_wp2_with (go_at_call 62; refine r63.mono ?_; rintro e w1 ⟨rfl, hE1⟩; have HG1 := (hE1.block g (blk_lt HG)).trans HG; have hI1 : IsS60 w0 w1 g (strB s) en s0_2 s0_3 s0_4 s0_5 s0_6 s0_7 s0_8 s0_9 s0_10 := ⟨HG1, hg⟩; have hB1 := below_step hB hE1; have hK1 : KeepBut w w1 g none := KeepBut.of_below hE1 g none; have m0 := cellS60_0 HG1; have m1 := cellS60_1 HG1; have m2 := cellS60_2 HG1; have m3 := cellS60_3 HG1; have m4 := cellS60_4 HG1; have f1 := blk_frozen HG1 1; have f2 := blk_frozen HG1 2; have f3 := blk_frozen HG1 3; have f4 := blk_frozen HG1 4)
    first | go_end0 | refine bodyPost_ret (results_none rfl _ _ _) rfl ?_
    exact ⟨rfl, (((hI1.set_1 _).set_2 _).set_3 _).set_4 _, ((((hB1.setCell (p := ⟨g, 1, none⟩) hg _).setCell (p := ⟨g, 2, none⟩) hg _).setCell (p := ⟨g, 3, none⟩) hg _).setCell (p := ⟨g, 4, none⟩) hg _), (((hK1.set_ 1 _).set_ 2 _).set_ 3 _).set_ 4 _⟩
  · have hlt : a < s.length := by omega
    have hb : ((a : Int) == (s.length : Int)) = false := by simp; omega
    obtain ⟨ch, hch⟩ : ∃ c, c = s[a] := ⟨_, rfl⟩
    have hsm : s[a]? = some ch := by rw [hch]; exact List.getElem?_eq_getElem hlt
    have hidx : ∀ h : a < (strB s).size, ((strB s)[a]'h).toNat = ch.toNat := fun h => by rw [hch]; rfl
    have b1 : (0 : Int) ≤ (a : Int) ∧ (a : Int) < s.length := by omega
    have c1 := fun W => sm_calls ch W
    have c2 := fun W => dg_calls ch W
    have h := H.out
    rw [hsm] at h
    simp only [] at h
    clear H hch
    by_cases hq : isSm ch = true
    · rw [if_pos hq] at h
      simp only [Option.some.injEq, Prod.mk.injEq] at h
      obtain ⟨rfl, rfl, rfl, rfl, rfl, rfl, rfl, rfl, rfl⟩ := h
      rw [hq] at c1
      go_enter Tryz.func44, Tryz.ntmps44
      go_wp2_with (first | (go_at_call 62; (with_reducible refine r63.mono ?_); rintro e w1 ⟨rfl, hE1⟩; have HG1 := (hE1.block g (blk_lt HG)).trans HG; have hI1 : IsS60 w0 w1 g (strB s) en s0_2 s0_3 s0_4 s0_5 s0_6 s0_7 s0_8 s0_9 s0_10 := ⟨HG1, hg⟩; have hB1 := below_step hB hE1; have hK1 : KeepBut w w1 g none := KeepBut.of_below hE1 g none; have m0 := cellS60_0 HG1; have m1 := cellS60_1 HG1; have m2 := cellS60_2 HG1; have m3 := cellS60_3 HG1; have m4 := cellS60_4 HG1; have f1 := blk_frozen HG1 1; have f2 := blk_frozen HG1 2; have f3 := blk_frozen HG1 3; have f4 := blk_frozen HG1 4) | (go_at_call 64; refine (c1 _).mono ?_; rintro e w2 ⟨rfl, hE2⟩; have HG2 := (hE2.block g (blk_lt HG1)).trans HG1; have hI2 : IsS60 w0 w2 g (strB s) en s0_2 s0_3 s0_4 s0_5 s0_6 s0_7 s0_8 s0_9 s0_10 := ⟨HG2, hg⟩; have hB2 := below_step hB1 hE2; have hK2 : KeepBut w w2 g none := hK1.trans (KeepBut.of_below hE2 g none) (.inl rfl); have n0 := cellS60_0 HG2; have n1 := cellS60_1 HG2; have n2 := cellS60_2 HG2; have n3 := cellS60_3 HG2; have n4 := cellS60_4 HG2; have e1 := blk_frozen HG2 1; have e2 := blk_frozen HG2 2; have e3 := blk_frozen HG2 3; have e4 := blk_frozen HG2 4) | (go_at_call 62; (with_reducible refine (run65 g s a _ n0 hal hs).mono ?_); rintro e w3 ⟨rfl, hE3⟩; have HG3 := (hE3.block g (blk_lt HG2)).trans HG2; have hI3 : IsS60 w0 w3 g (strB s) en s0_2 s0_3 s0_4 s0_5 s0_6 s0_7 s0_8 s0_9 s0_10 := ⟨HG3, hg⟩; have hB3 := below_step hB2 hE3; have hK3 : KeepBut w w3 g none := hK2.trans (KeepBut.of_below hE3 g none) (.inl rfl); have p0 := cellS60_0 HG3; have p1 := cellS60_1 HG3; have p2 := cellS60_2 HG3; have p3 := cellS60_3 HG3; have p4 := cellS60_4 HG3; have q1 := blk_frozen HG3 1; have q2 := blk_frozen HG3 2; have q3 := blk_frozen HG3 3; have q4 := blk_frozen HG3 4))
      have hI4 := hI3.set_1 ((runEnd isWd s a : Nat) : Int)
      obtain ⟨HG4, hg4⟩ := hI4
      have o0 := cellS60_0 HG4
      have o1 := cellS60_1 HG4
      have o2 := cellS60_2 HG4
      have o3 := cellS60_3 HG4
      have o4 := cellS60_4 HG4
      have x2 := blk_frozen HG4 2
      have x3 := blk_frozen HG4 3
      have x4 := blk_frozen HG4 4
      have hle := runEnd_le isWd s a hal
      have hge : a ≤ runEnd isWd s a := by unfold runEnd; omega
      have b2 : (0 : Int) ≤ (a : Int) ∧ (a : Int) ≤ (runEnd isWd s a : Int) ∧ (runEnd isWd s a : Int) ≤ s.length := by omega
      go_region_with (fail)
      all_goals rw [strB_run]
      all_goals go_end0
      all_goals exact ⟨rfl, (((hI3.set_1 _).set_2 _).set_3 _).set_4 _, below_drew ((((hB3.setCell (p := ⟨g, 1, none⟩) hg _).setCell (p := ⟨g, 2, none⟩) hg _).setCell (p := ⟨g, 3, none⟩) hg _).setCell (p := ⟨g, 4, none⟩) hg _), (((hK3.set_ 1 _).set_ 2 _).set_ 3 _).set_ 4 _⟩
    · rw [if_neg hq] at h
      by_cases hd : isDg ch = true
      · rw [if_pos hd] at h
        simp only [Option.some.injEq, Prod.mk.injEq] at h
        obtain ⟨rfl, rfl, rfl, rfl, rfl, rfl, rfl, rfl, rfl⟩ := h
        rw [Bool.eq_false_iff.2 hq] at c1
        rw [hd] at c2
        go_enter Tryz.func44, Tryz.ntmps44
        go_wp2_with (first | (go_at_call 62; (with_reducible refine r63.mono ?_); rintro e w1 ⟨rfl, hE1⟩; have HG1 := (hE1.block g (blk_lt HG)).trans HG; have hI1 : IsS60 w0 w1 g (strB s) en s0_2 s0_3 s0_4 s0_5 s0_6 s0_7 s0_8 s0_9 s0_10 := ⟨HG1, hg⟩; have hB1 := below_step hB hE1; have hK1 : KeepBut w w1 g none := KeepBut.of_below hE1 g none; have m0 := cellS60_0 HG1; have m1 := cellS60_1 HG1; have m2 := cellS60_2 HG1; have m3 := cellS60_3 HG1; have m4 := cellS60_4 HG1; have f1 := blk_frozen HG1 1; have f2 := blk_frozen HG1 2; have f3 := blk_frozen HG1 3; have f4 := blk_frozen HG1 4) | (go_at_call 64; refine (c1 _).mono ?_; rintro e w2 ⟨rfl, hE2⟩; have HG2 := (hE2.block g (blk_lt HG1)).trans HG1; have hI2 : IsS60 w0 w2 g (strB s) en s0_2 s0_3 s0_4 s0_5 s0_6 s0_7 s0_8 s0_9 s0_10 := ⟨HG2, hg⟩; have hB2 := below_step hB1 hE2; have hK2 : KeepBut w w2 g none := hK1.trans (KeepBut.of_below hE2 g none) (.inl rfl); have n0 := cellS60_0 HG2; have n1 := cellS60_1 HG2; have n2 := cellS60_2 HG2; have n3 := cellS60_3 HG2; have n4 := cellS60_4 HG2; have e1 := blk_frozen HG2 1; have e2 := blk_frozen HG2 2; have e3 := blk_frozen HG2 3; have e4 := blk_frozen HG2 4) | (go_at_call 66; refine (c2 _).mono ?_; rintro e w5 ⟨rfl, hE5⟩; have HG5 := (hE5.block g (blk_lt HG2)).trans HG2; have hB5 := below_step hB2 hE5; have hK5 : KeepBut w w5 g none := hK2.trans (KeepBut.of_below hE5 g none) (.inl rfl); have t0 := cellS60_0 HG5; have hI5 : IsS60 w0 w5 g (strB s) en s0_2 s0_3 s0_4 s0_5 s0_6 s0_7 s0_8 s0_9 s0_10 := ⟨HG5, hg⟩; have t1 := cellS60_1 HG5; have y1 := blk_frozen HG5 1) | (go_at_call 62; (with_reducible refine (run66 g s a _ t0 hal hs).mono ?_); rintro e w3 ⟨rfl, hE3⟩; have HG3 := (hE3.block g (blk_lt HG5)).trans HG5; have hI3 : IsS60 w0 w3 g (strB s) en s0_2 s0_3 s0_4 s0_5 s0_6 s0_7 s0_8 s0_9 s0_10 := ⟨HG3, hg⟩; have hB3 := below_step hB5 hE3; have hK3 : KeepBut w w3 g none := hK5.trans (KeepBut.of_below hE3 g none) (.inl rfl); have p0 := cellS60_0 HG3; have p1 := cellS60_1 HG3; have p2 := cellS60_2 HG3; have p3 := cellS60_3 HG3; have p4 := cellS60_4 HG3; have q1 := blk_frozen HG3 1; have q2 := blk_frozen HG3 2; have q3 := blk_frozen HG3 3; have q4 := blk_frozen HG3 4))
        have hI4 := hI3.set_1 ((runEnd isDg s a : Nat) : Int)
        obtain ⟨HG4, hg4⟩ := hI4
        have o0 := cellS60_0 HG4
        have o1 := cellS60_1 HG4
        have o2 := cellS60_2 HG4
        have o3 := cellS60_3 HG4
        have o4 := cellS60_4 HG4
        have x2 := blk_frozen HG4 2
        have x3 := blk_frozen HG4 3
        have x4 := blk_frozen HG4 4
        have hle := runEnd_le isDg s a hal
        have hge : a ≤ runEnd isDg s a := by unfold runEnd; omega
        have b2 : (0 : Int) ≤ (a : Int) ∧ (a : Int) ≤ (runEnd isDg s a : Int) ∧ (runEnd isDg s a : Int) ≤ s.length := by omega
        go_region_with (fail)
        all_goals rw [strB_run]
        all_goals go_end0
        all_goals exact ⟨rfl, (((hI3.set_1 _).set_2 _).set_3 _).set_4 _, below_drew ((((hB3.setCell (p := ⟨g, 1, none⟩) hg _).setCell (p := ⟨g, 2, none⟩) hg _).setCell (p := ⟨g, 3, none⟩) hg _).setCell (p := ⟨g, 4, none⟩) hg _), (((hK3.set_ 1 _).set_ 2 _).set_ 3 _).set_ 4 _⟩
      · rw [if_neg hd] at h
        rw [Bool.eq_false_iff.2 hq] at c1
        rw [Bool.eq_false_iff.2 hd] at c2
        have h34e : ((ch.toNat : Int) == 34) = decide (ch = 34) := by rw [Bool.eq_iff_iff]; simp [← UInt8.toNat_inj]; omega
        by_cases k34 : ch = 34
        · rw [if_pos k34] at h
          rw [decide_eq_true k34] at h34e
          clear k34
          go_enter Tryz.func44, Tryz.ntmps44
          go_wp2_with (first | (go_at_call 62; (with_reducible refine r63.mono ?_); rintro e w1 ⟨rfl, hE1⟩; have HG1 := (hE1.block g (blk_lt HG)).trans HG; have hI1 : IsS60 w0 w1 g (strB s) en s0_2 s0_3 s0_4 s0_5 s0_6 s0_7 s0_8 s0_9 s0_10 := ⟨HG1, hg⟩; have hB1 := below_step hB hE1; have hK1 : KeepBut w w1 g none := KeepBut.of_below hE1 g none; have m0 := cellS60_0 HG1; have m1 := cellS60_1 HG1; have m2 := cellS60_2 HG1; have m3 := cellS60_3 HG1; have m4 := cellS60_4 HG1; have f1 := blk_frozen HG1 1; have f2 := blk_frozen HG1 2; have f3 := blk_frozen HG1 3; have f4 := blk_frozen HG1 4) | (go_at_call 64; refine (c1 _).mono ?_; rintro e w2 ⟨rfl, hE2⟩; have HG2 := (hE2.block g (blk_lt HG1)).trans HG1; have hI2 : IsS60 w0 w2 g (strB s) en s0_2 s0_3 s0_4 s0_5 s0_6 s0_7 s0_8 s0_9 s0_10 := ⟨HG2, hg⟩; have hB2 := below_step hB1 hE2; have hK2 : KeepBut w w2 g none := hK1.trans (KeepBut.of_below hE2 g none) (.inl rfl); have n0 := cellS60_0 HG2; have n1 := cellS60_1 HG2; have n2 := cellS60_2 HG2; have n3 := cellS60_3 HG2; have n4 := cellS60_4 HG2; have e1 := blk_frozen HG2 1; have e2 := blk_frozen HG2 2; have e3 := blk_frozen HG2 3; have e4 := blk_frozen HG2 4) | (go_at_call 66; refine (c2 _).mono ?_; rintro e w5 ⟨rfl, hE5⟩; have HG5 := (hE5.block g (blk_lt HG2)).trans HG2; have hB5 := below_step hB2 hE5; have hK5 : KeepBut w w5 g none := hK2.trans (KeepBut.of_below hE5 g none) (.inl rfl); have t0 := cellS60_0 HG5; have hI5 : IsS60 w0 w5 g (strB s) en s0_2 s0_3 s0_4 s0_5 s0_6 s0_7 s0_8 s0_9 s0_10 := ⟨HG5, hg⟩; have t1 := cellS60_1 HG5; have y1 := blk_frozen HG5 1) | (go_at_call 67; (with_reducible refine (query_reader_quoted.calls k g (strB s) en s0_2 s0_3 s0_4 s0_5 s0_6 s0_7 s0_8 s0_9 s0_10 a r1 r2 r3 r4 r5 r6 r7 r8 r9 w0 _ hI5 hB5 h).mono ?_); rintro e w6 ⟨rfl, hI6, hB6, hK6⟩))
          first | go_end0 | refine bodyPost_ret (results_none rfl _ _ _) rfl ?_
          exact ⟨rfl, hI6, hB6, hK5.trans hK6 (.inl rfl)⟩
        · rw [if_neg k34] at h
          simp only [k34, decide_false] at h34e
          clear k34
          go_enter Tryz.func44, Tryz.ntmps44
          go_wp2_with (first | (go_at_call 62; (with_reducible refine r63.mono ?_); rintro e w1 ⟨rfl, hE1⟩; have HG1 := (hE1.block g (blk_lt HG)).trans HG; have hI1 : IsS60 w0 w1 g (strB s) en s0_2 s0_3 s0_4 s0_5 s0_6 s0_7 s0_8 s0_9 s0_10 := ⟨HG1, hg⟩; have hB1 := below_step hB hE1; have hK1 : KeepBut w w1 g none := KeepBut.of_below hE1 g none; have m0 := cellS60_0 HG1; have m1 := cellS60_1 HG1; have m2 := cellS60_2 HG1; have m3 := cellS60_3 HG1; have m4 := cellS60_4 HG1; have f1 := blk_frozen HG1 1; have f2 := blk_frozen HG1 2; have f3 := blk_frozen HG1 3; have f4 := blk_frozen HG1 4) | (go_at_call 64; refine (c1 _).mono ?_; rintro e w2 ⟨rfl, hE2⟩; have HG2 := (hE2.block g (blk_lt HG1)).trans HG1; have hI2 : IsS60 w0 w2 g (strB s) en s0_2 s0_3 s0_4 s0_5 s0_6 s0_7 s0_8 s0_9 s0_10 := ⟨HG2, hg⟩; have hB2 := below_step hB1 hE2; have hK2 : KeepBut w w2 g none := hK1.trans (KeepBut.of_below hE2 g none) (.inl rfl); have n0 := cellS60_0 HG2; have n1 := cellS60_1 HG2; have n2 := cellS60_2 HG2; have n3 := cellS60_3 HG2; have n4 := cellS60_4 HG2; have e1 := blk_frozen HG2 1; have e2 := blk_frozen HG2 2; have e3 := blk_frozen HG2 3; have e4 := blk_frozen HG2 4) | (go_at_call 66; refine (c2 _).mono ?_; rintro e w5 ⟨rfl, hE5⟩; have HG5 := (hE5.block g (blk_lt HG2)).trans HG2; have hB5 := below_step hB2 hE5; have hK5 : KeepBut w w5 g none := hK2.trans (KeepBut.of_below hE5 g none) (.inl rfl); have t0 := cellS60_0 HG5; have hI5 : IsS60 w0 w5 g (strB s) en s0_2 s0_3 s0_4 s0_5 s0_6 s0_7 s0_8 s0_9 s0_10 := ⟨HG5, hg⟩; have t1 := cellS60_1 HG5; have y1 := blk_frozen HG5 1) | (go_at_call 68; (with_reducible refine (query_reader_signed.calls k g (strB s) en s0_2 s0_3 s0_4 s0_5 s0_6 s0_7 s0_8 s0_9 s0_10 a r1 r2 r3 r4 r5 r6 r7 r8 r9 w0 _ hI5 hB5 h).mono ?_); rintro e w6 ⟨rfl, hI6, hB6, hK6⟩))
          first | go_end0 | refine bodyPost_ret (results_none rfl _ _ _) rfl ?_
          exact ⟨rfl, hI6, hB6, hK5.trans hK6 (.inl rfl)⟩
end Go.Proofs.YthhemephaabblaaGreatDoor.Hq
namespace Go.Proofs.YthhemephaabblaaGreatDoor.Q
open Go.RowKit  Go.Proofs.YthhemephaabblaaGreatDoorW.PrintWords Go.Proofs.YthhemephaabblaaGreatDoorW.PrintLast Go.Proofs.YthhemephaabblaaGreatDoorW.PrintMore
attribute [local go_sem] max2_int min2_int max_two min_two max_three min_three max_four min_four   -- for this text's walks alone
set_option linter.unusedVariables false
set_option linter.unusedSimpArgs false

theorem eqA37 (d : Nat) (w : World) (x0 y0 : ByteArray) (x1 y1 : Int) (x2 y2 : ByteArray) :
  (Op.equalIn (d + 2) 37 (.agg #[.string x0, .int .i64 x1, .string x2]) (.agg #[.string y0, .int .i64 y1, .string y2])).run Tryz.prog w = .ok (x0.toList == y0.toList && (x1 == y1 && (x2.toList == y2.toList))) w := by
 refine eqA_of Tryz.underlying37 (by kernel_rfl) ?_
 refine eqf_cons (by rfl) (by go_simp; rfl) (by go_simp; rfl) (by go_simp) ?_
 refine eqf_cons (by rfl) (by go_simp; rfl) (by go_simp; rfl) (by go_simp) ?_
 exact eqf_last (by rfl) (by go_simp; rfl) (by go_simp; rfl) (by go_simp)
end Go.Proofs.YthhemephaabblaaGreatDoor.Q
