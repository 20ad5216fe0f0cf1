
import Derived.Test.YthhemephaabblaaGreatDoorZDc
namespace Go.Proofs.YthhemephaabblaaGreatDoor.Q
open Go.RowKit  Go.Proofs.YthhemephaabblaaGreatDoorW.PrintWords Go.Proofs.YthhemephaabblaaGreatDoorW.PrintLast Go.Proofs.YthhemephaabblaaGreatDoorW.PrintMore
attribute [local go_sem] max2_int min2_int max_two min_two max_three min_three max_four min_four
set_option linter.unusedVariables false
set_option linter.unusedSimpArgs false
def stringslite_HasPrefix.f (a0 : ByteArray) (a1 : ByteArray) : Option (Bool) := if (a0.size : Int) ≥ (a1.size : Int) then (if 0 ≤ (a1.size : Int) then (if (a1.size : Int) ≤ (a0.size : Int) then (some ((a0.extract 0 ((a1.size : Int) : Int).toNat).toList == a1.toList)) else (none)) else (none)) else (some false)
set_option maxHeartbeats 8000000 in
set_option maxRecDepth 100000 in
theorem stringslite_HasPrefix.calls (a0 : ByteArray) (a1 : ByteArray) (r : Bool) (w : World) (h : stringslite_HasPrefix.f a0 a1 = some r) :
  Calls Tryz.prog 100 #[.string a0, .string a1] w fun e w' => e = .returned (.bool r) ∧ Drawn0 w w' := by
 have H : (if (a0.size : Int) ≥ (a1.size : Int) then (if 0 ≤ (a1.size : Int) then (if (a1.size : Int) ≤ (a0.size : Int) then (some ((a0.extract 0 ((a1.size : Int) : Int).toNat).toList == a1.toList)) else (none)) else (none)) else (some false)) = some r := h
 clear h
 by_cases c3 : (a0.size : Int) ≥ (a1.size : Int)
 ·
  rw [if_pos c3] at H
  have c3b0 : decide ((a1.size : Int) ≤ (a0.size : Int)) = true := decide_eq_true c3
  have c3b1 : decide (a1.size ≤ a0.size) = true := decide_eq_true (Int.ofNat_le.mp c3)
  clear c3
  by_cases c4 : 0 ≤ (a1.size : Int)
  ·
   rw [if_pos c4] at H
   have c4b0 := eq_true c4
   have c4b1 : decide (0 ≤ (a1.size : Int)) = true := decide_eq_true c4
   clear c4
   by_cases c5 : (a1.size : Int) ≤ (a0.size : Int)
   ·
    rw [if_pos c5] at H
    have c5b0 := eq_true c5
    have c5b1 : decide ((a1.size : Int) ≤ (a0.size : Int)) = true := decide_eq_true c5
    clear c5
    obtain rfl := Option.some.inj H
    go_enter Tryz.func100, Tryz.ntmps100
    go_wp2
    go_ret
    exact ⟨by first | rfl | (simp; done) | (simp [*]; done), by repeat (first | exact Drawn0.refl _ | apply Drawn0.step)⟩
   ·
    rw [if_neg c5] at H
    exact absurd H (by simp)
  ·
   rw [if_neg c4] at H
   exact absurd H (by simp)
 ·
  rw [if_neg c3] at H
  have c3b0 : decide ((a1.size : Int) ≤ (a0.size : Int)) = false := decide_eq_false c3
  have c3b1 : decide (a1.size ≤ a0.size) = false := decide_eq_false (fun h => c3 (Int.ofNat_le.mpr h))
  clear c3
  obtain rfl := Option.some.inj H
  go_enter Tryz.func100, Tryz.ntmps100
  go_wp2
  go_ret
  exact ⟨by first | rfl | (simp; done) | (simp [*]; done), by repeat (first | exact Drawn0.refl _ | apply Drawn0.step)⟩
def strings_HasPrefix.f (a0 : ByteArray) (a1 : ByteArray) : Option (Bool) := (stringslite_HasPrefix.f a0 a1).bind fun t119 => (some t119)
set_option maxHeartbeats 8000000 in
set_option maxRecDepth 100000 in
theorem strings_HasPrefix.calls (a0 : ByteArray) (a1 : ByteArray) (r : Bool) (w : World) (h : strings_HasPrefix.f a0 a1 = some r) :
  Calls Tryz.prog 82 #[.string a0, .string a1] w fun e w' => e = .returned (.bool r) ∧ Drawn0 w w' := by
 have H : ((stringslite_HasPrefix.f a0 a1).bind fun t119 => (some t119)) = some r := h
 clear h
 replace H := Option.bind_eq_some_iff.mp H
 obtain ⟨t119, A30, H⟩ := H
 replace H : (some t119) = some r := H
 have A3 := Aside0.mk A30
 clear A30
 obtain rfl := Option.some.inj H
 go_enter Tryz.func82, Tryz.ntmps82
 go_wp2_with (first | ((with_reducible refine gate_callee (f := 100) rfl ?_); refine goesL_ (some 7) rfl rfl Tryz.func100 (by kernel_rfl) rfl #[.string a0, .string a1] rfl (by (try simp only [List.map_toArray, List.map_cons, List.map_nil]); first | done | rfl | (simp only [List.length_drop, List.length_take]; rfl)) ?_; (with_reducible refine (stringslite_HasPrefix.calls a0 a1 t119 _ A3.out).mono ?_); rintro e w' ⟨rfl, ⟨nd, rfl⟩⟩; refine ⟨_, rfl, ?_⟩))
 go_ret
 exact ⟨by first | rfl | (simp; done) | (simp [*]; done), by repeat (first | exact Drawn0.refl _ | apply Drawn0.step)⟩
def IsS60 (w0 W : World) (g : Nat) (f0 : ByteArray) (f1 : Int) (f2 : Int) (f3 : ByteArray) (f4 : Int) (f5 : Value) (f6 : ByteArray) (f7 : Value) (f8 : ByteArray) (f9 : Bool) (f10 : Int) : Prop := W.heap[g]? = some (.cells #[.string f0, .int .i64 f1, .int .i64 f2, .string f3, .int .i64 f4, f5, .string f6, f7, .string f8, .bool f9, .int .i64 f10] 60 (0, 0)) ∧ w0.heap.size ≤ g
theorem IsS60.grown {w0 W : World} {g : Nat} {f0 : ByteArray} {f1 : Int} {f2 : Int} {f3 : ByteArray} {f4 : Int} {f5 : Value} {f6 : ByteArray} {f7 : Value} {f8 : ByteArray} {f9 : Bool} {f10 : Int} {W1 : World} {row : Option Nat} (h : IsS60 w0 W g f0 f1 f2 f3 f4 f5 f6 f7 f8 f9 f10) (hw : W.grownBy W1 row) (hne : some g ≠ row) : IsS60 w0 W1 g f0 f1 f2 f3 f4 f5 f6 f7 f8 f9 f10 := by
 obtain ⟨hb, hg⟩ := h
 exact ⟨blk_grown hb hw hne, hg⟩
theorem IsS60.below {w0 W : World} {g : Nat} {f0 : ByteArray} {f1 : Int} {f2 : Int} {f3 : ByteArray} {f4 : Int} {f5 : Value} {f6 : ByteArray} {f7 : Value} {f8 : ByteArray} {f9 : Bool} {f10 : Int} {W1 : World} (h : IsS60 w0 W g f0 f1 f2 f3 f4 f5 f6 f7 f8 f9 f10) (hw : Below W.heap.size W W1) : IsS60 w0 W1 g f0 f1 f2 f3 f4 f5 f6 f7 f8 f9 f10 := h.grown (grown_of_below hw none) (by simp)
theorem IsS60.alloc {w0 W : World} {g : Nat} {f0 : ByteArray} {f1 : Int} {f2 : Int} {f3 : ByteArray} {f4 : Int} {f5 : Value} {f6 : ByteArray} {f7 : Value} {f8 : ByteArray} {f9 : Bool} {f10 : Int} (h : IsS60 w0 W g f0 f1 f2 f3 f4 f5 f6 f7 f8 f9 f10) (o : Obj) : IsS60 w0 (W.alloc o) g f0 f1 f2 f3 f4 f5 f6 f7 f8 f9 f10 := h.below (below_alloc (Below.refl _ _) o)
theorem IsS60.drewN {w0 W : World} {g : Nat} {f0 : ByteArray} {f1 : Int} {f2 : Int} {f3 : ByteArray} {f4 : Int} {f5 : Value} {f6 : ByteArray} {f7 : Value} {f8 : ByteArray} {f9 : Bool} {f10 : Int} (h : IsS60 w0 W g f0 f1 f2 f3 f4 f5 f6 f7 f8 f9 f10) (m : Nat) : IsS60 w0 (W.drewN m) g f0 f1 f2 f3 f4 f5 f6 f7 f8 f9 f10 := h
theorem IsS60.own_ne {w0 W : World} {g : Nat} {f0 : ByteArray} {f1 : Int} {f2 : Int} {f3 : ByteArray} {f4 : Int} {f5 : Value} {f6 : ByteArray} {f7 : Value} {f8 : ByteArray} {f9 : Bool} {f10 : Int} {α : Type} {d : Kd α} {e : Nat} {base : Nat} {ok : Nat → Prop} {v : Value} {xs : List α} (h : IsS60 w0 W g f0 f1 f2 f3 f4 f5 f6 f7 f8 f9 f10) (ho : d.R e W base ok v xs) (ht : e ≠ 60) : some g ≠ v.ownBlock := by
 obtain ⟨hb, hg⟩ := h
 exact Kd.R_ne ho hb ht
theorem IsS60.lt {w0 W : World} {g : Nat} {f0 : ByteArray} {f1 : Int} {f2 : Int} {f3 : ByteArray} {f4 : Int} {f5 : Value} {f6 : ByteArray} {f7 : Value} {f8 : ByteArray} {f9 : Bool} {f10 : Int} (h : IsS60 w0 W g f0 f1 f2 f3 f4 f5 f6 f7 f8 f9 f10) : g < W.heap.size := by
 obtain ⟨hb, hg⟩ := h
 exact blk_lt hb
theorem IsS60.ge {w0 W : World} {g : Nat} {f0 : ByteArray} {f1 : Int} {f2 : Int} {f3 : ByteArray} {f4 : Int} {f5 : Value} {f6 : ByteArray} {f7 : Value} {f8 : ByteArray} {f9 : Bool} {f10 : Int} (h : IsS60 w0 W g f0 f1 f2 f3 f4 f5 f6 f7 f8 f9 f10) : w0.heap.size ≤ g := by
 obtain ⟨hb, hg⟩ := h
 exact hg
theorem cellS60_0 {W : World} {g : Nat} {f0 : ByteArray} {f1 : Int} {f2 : Int} {f3 : ByteArray} {f4 : Int} {f5 : Value} {f6 : ByteArray} {f7 : Value} {f8 : ByteArray} {f9 : Bool} {f10 : Int} (h : W.heap[g]? = some (.cells #[.string f0, .int .i64 f1, .int .i64 f2, .string f3, .int .i64 f4, f5, .string f6, f7, .string f8, .bool f9, .int .i64 f10] 60 (0, 0))) : W.cell? ⟨g, 0, none⟩ = some (.string f0) := (blk_cell h 0).trans rfl
theorem cellS60_1 {W : World} {g : Nat} {f0 : ByteArray} {f1 : Int} {f2 : Int} {f3 : ByteArray} {f4 : Int} {f5 : Value} {f6 : ByteArray} {f7 : Value} {f8 : ByteArray} {f9 : Bool} {f10 : Int} (h : W.heap[g]? = some (.cells #[.string f0, .int .i64 f1, .int .i64 f2, .string f3, .int .i64 f4, f5, .string f6, f7, .string f8, .bool f9, .int .i64 f10] 60 (0, 0))) : W.cell? ⟨g, 1, none⟩ = some (.int .i64 f1) := (blk_cell h 1).trans rfl
theorem IsS60.set_1 {w0 W : World} {g : Nat} {f0 : ByteArray} {f1 : Int} {f2 : Int} {f3 : ByteArray} {f4 : Int} {f5 : Value} {f6 : ByteArray} {f7 : Value} {f8 : ByteArray} {f9 : Bool} {f10 : Int} (h : IsS60 w0 W g f0 f1 f2 f3 f4 f5 f6 f7 f8 f9 f10) (x : Int) : IsS60 w0 (W.setCell ⟨g, 1, none⟩ (.int .i64 x)) g f0 x f2 f3 f4 f5 f6 f7 f8 f9 f10 := by
 obtain ⟨hb, hg⟩ := h
 exact ⟨by simpa using blk_set hb 1 (.int .i64 x), hg⟩
theorem cellS60_2 {W : World} {g : Nat} {f0 : ByteArray} {f1 : Int} {f2 : Int} {f3 : ByteArray} {f4 : Int} {f5 : Value} {f6 : ByteArray} {f7 : Value} {f8 : ByteArray} {f9 : Bool} {f10 : Int} (h : W.heap[g]? = some (.cells #[.string f0, .int .i64 f1, .int .i64 f2, .string f3, .int .i64 f4, f5, .string f6, f7, .string f8, .bool f9, .int .i64 f10] 60 (0, 0))) : W.cell? ⟨g, 2, none⟩ = some (.int .i64 f2) := (blk_cell h 2).trans rfl
theorem IsS60.set_2 {w0 W : World} {g : Nat} {f0 : ByteArray} {f1 : Int} {f2 : Int} {f3 : ByteArray} {f4 : Int} {f5 : Value} {f6 : ByteArray} {f7 : Value} {f8 : ByteArray} {f9 : Bool} {f10 : Int} (h : IsS60 w0 W g f0 f1 f2 f3 f4 f5 f6 f7 f8 f9 f10) (x : Int) : IsS60 w0 (W.setCell ⟨g, 2, none⟩ (.int .i64 x)) g f0 f1 x f3 f4 f5 f6 f7 f8 f9 f10 := by
 obtain ⟨hb, hg⟩ := h
 exact ⟨by simpa using blk_set hb 2 (.int .i64 x), hg⟩
theorem cellS60_3 {W : World} {g : Nat} {f0 : ByteArray} {f1 : Int} {f2 : Int} {f3 : ByteArray} {f4 : Int} {f5 : Value} {f6 : ByteArray} {f7 : Value} {f8 : ByteArray} {f9 : Bool} {f10 : Int} (h : W.heap[g]? = some (.cells #[.string f0, .int .i64 f1, .int .i64 f2, .string f3, .int .i64 f4, f5, .string f6, f7, .string f8, .bool f9, .int .i64 f10] 60 (0, 0))) : W.cell? ⟨g, 3, none⟩ = some (.string f3) := (blk_cell h 3).trans rfl
theorem IsS60.set_3 {w0 W : World} {g : Nat} {f0 : ByteArray} {f1 : Int} {f2 : Int} {f3 : ByteArray} {f4 : Int} {f5 : Value} {f6 : ByteArray} {f7 : Value} {f8 : ByteArray} {f9 : Bool} {f10 : Int} (h : IsS60 w0 W g f0 f1 f2 f3 f4 f5 f6 f7 f8 f9 f10) (x : ByteArray) : IsS60 w0 (W.setCell ⟨g, 3, none⟩ (.string x)) g f0 f1 f2 x f4 f5 f6 f7 f8 f9 f10 := by
 obtain ⟨hb, hg⟩ := h
 exact ⟨by simpa using blk_set hb 3 (.string x), hg⟩
theorem cellS60_4 {W : World} {g : Nat} {f0 : ByteArray} {f1 : Int} {f2 : Int} {f3 : ByteArray} {f4 : Int} {f5 : Value} {f6 : ByteArray} {f7 : Value} {f8 : ByteArray} {f9 : Bool} {f10 : Int} (h : W.heap[g]? = some (.cells #[.string f0, .int .i64 f1, .int .i64 f2, .string f3, .int .i64 f4, f5, .string f6, f7, .string f8, .bool f9, .int .i64 f10] 60 (0, 0))) : W.cell? ⟨g, 4, none⟩ = some (.int .i64 f4) := (blk_cell h 4).trans rfl
theorem IsS60.set_4 {w0 W : World} {g : Nat} {f0 : ByteArray} {f1 : Int} {f2 : Int} {f3 : ByteArray} {f4 : Int} {f5 : Value} {f6 : ByteArray} {f7 : Value} {f8 : ByteArray} {f9 : Bool} {f10 : Int} (h : IsS60 w0 W g f0 f1 f2 f3 f4 f5 f6 f7 f8 f9 f10) (x : Int) : IsS60 w0 (W.setCell ⟨g, 4, none⟩ (.int .i64 x)) g f0 f1 f2 f3 x f5 f6 f7 f8 f9 f10 := by
 obtain ⟨hb, hg⟩ := h
 exact ⟨by simpa using blk_set hb 4 (.int .i64 x), hg⟩
theorem cellS60_5 {W : World} {g : Nat} {f0 : ByteArray} {f1 : Int} {f2 : Int} {f3 : ByteArray} {f4 : Int} {f5 : Value} {f6 : ByteArray} {f7 : Value} {f8 : ByteArray} {f9 : Bool} {f10 : Int} (h : W.heap[g]? = some (.cells #[.string f0, .int .i64 f1, .int .i64 f2, .string f3, .int .i64 f4, f5, .string f6, f7, .string f8, .bool f9, .int .i64 f10] 60 (0, 0))) : W.cell? ⟨g, 5, none⟩ = some (f5) := (blk_cell h 5).trans rfl
theorem cellS60_6 {W : World} {g : Nat} {f0 : ByteArray} {f1 : Int} {f2 : Int} {f3 : ByteArray} {f4 : Int} {f5 : Value} {f6 : ByteArray} {f7 : Value} {f8 : ByteArray} {f9 : Bool} {f10 : Int} (h : W.heap[g]? = some (.cells #[.string f0, .int .i64 f1, .int .i64 f2, .string f3, .int .i64 f4, f5, .string f6, f7, .string f8, .bool f9, .int .i64 f10] 60 (0, 0))) : W.cell? ⟨g, 6, none⟩ = some (.string f6) := (blk_cell h 6).trans rfl
theorem IsS60.set_6 {w0 W : World} {g : Nat} {f0 : ByteArray} {f1 : Int} {f2 : Int} {f3 : ByteArray} {f4 : Int} {f5 : Value} {f6 : ByteArray} {f7 : Value} {f8 : ByteArray} {f9 : Bool} {f10 : Int} (h : IsS60 w0 W g f0 f1 f2 f3 f4 f5 f6 f7 f8 f9 f10) (x : ByteArray) : IsS60 w0 (W.setCell ⟨g, 6, none⟩ (.string x)) g f0 f1 f2 f3 f4 f5 x f7 f8 f9 f10 := by
 obtain ⟨hb, hg⟩ := h
 exact ⟨by simpa using blk_set hb 6 (.string x), hg⟩
theorem cellS60_7 {W : World} {g : Nat} {f0 : ByteArray} {f1 : Int} {f2 : Int} {f3 : ByteArray} {f4 : Int} {f5 : Value} {f6 : ByteArray} {f7 : Value} {f8 : ByteArray} {f9 : Bool} {f10 : Int} (h : W.heap[g]? = some (.cells #[.string f0, .int .i64 f1, .int .i64 f2, .string f3, .int .i64 f4, f5, .string f6, f7, .string f8, .bool f9, .int .i64 f10] 60 (0, 0))) : W.cell? ⟨g, 7, none⟩ = some (f7) := (blk_cell h 7).trans rfl
theorem cellS60_8 {W : World} {g : Nat} {f0 : ByteArray} {f1 : Int} {f2 : Int} {f3 : ByteArray} {f4 : Int} {f5 : Value} {f6 : ByteArray} {f7 : Value} {f8 : ByteArray} {f9 : Bool} {f10 : Int} (h : W.heap[g]? = some (.cells #[.string f0, .int .i64 f1, .int .i64 f2, .string f3, .int .i64 f4, f5, .string f6, f7, .string f8, .bool f9, .int .i64 f10] 60 (0, 0))) : W.cell? ⟨g, 8, none⟩ = some (.string f8) := (blk_cell h 8).trans rfl
theorem IsS60.set_8 {w0 W : World} {g : Nat} {f0 : ByteArray} {f1 : Int} {f2 : Int} {f3 : ByteArray} {f4 : Int} {f5 : Value} {f6 : ByteArray} {f7 : Value} {f8 : ByteArray} {f9 : Bool} {f10 : Int} (h : IsS60 w0 W g f0 f1 f2 f3 f4 f5 f6 f7 f8 f9 f10) (x : ByteArray) : IsS60 w0 (W.setCell ⟨g, 8, none⟩ (.string x)) g f0 f1 f2 f3 f4 f5 f6 f7 x f9 f10 := by
 obtain ⟨hb, hg⟩ := h
 exact ⟨by simpa using blk_set hb 8 (.string x), hg⟩
theorem cellS60_9 {W : World} {g : Nat} {f0 : ByteArray} {f1 : Int} {f2 : Int} {f3 : ByteArray} {f4 : Int} {f5 : Value} {f6 : ByteArray} {f7 : Value} {f8 : ByteArray} {f9 : Bool} {f10 : Int} (h : W.heap[g]? = some (.cells #[.string f0, .int .i64 f1, .int .i64 f2, .string f3, .int .i64 f4, f5, .string f6, f7, .string f8, .bool f9, .int .i64 f10] 60 (0, 0))) : W.cell? ⟨g, 9, none⟩ = some (.bool f9) := (blk_cell h 9).trans rfl
theorem IsS60.set_9 {w0 W : World} {g : Nat} {f0 : ByteArray} {f1 : Int} {f2 : Int} {f3 : ByteArray} {f4 : Int} {f5 : Value} {f6 : ByteArray} {f7 : Value} {f8 : ByteArray} {f9 : Bool} {f10 : Int} (h : IsS60 w0 W g f0 f1 f2 f3 f4 f5 f6 f7 f8 f9 f10) (x : Bool) : IsS60 w0 (W.setCell ⟨g, 9, none⟩ (.bool x)) g f0 f1 f2 f3 f4 f5 f6 f7 f8 x f10 := by
 obtain ⟨hb, hg⟩ := h
 exact ⟨by simpa using blk_set hb 9 (.bool x), hg⟩
theorem cellS60_10 {W : World} {g : Nat} {f0 : ByteArray} {f1 : Int} {f2 : Int} {f3 : ByteArray} {f4 : Int} {f5 : Value} {f6 : ByteArray} {f7 : Value} {f8 : ByteArray} {f9 : Bool} {f10 : Int} (h : W.heap[g]? = some (.cells #[.string f0, .int .i64 f1, .int .i64 f2, .string f3, .int .i64 f4, f5, .string f6, f7, .string f8, .bool f9, .int .i64 f10] 60 (0, 0))) : W.cell? ⟨g, 10, none⟩ = some (.int .i64 f10) := (blk_cell h 10).trans rfl
theorem IsS60.set_10 {w0 W : World} {g : Nat} {f0 : ByteArray} {f1 : Int} {f2 : Int} {f3 : ByteArray} {f4 : Int} {f5 : Value} {f6 : ByteArray} {f7 : Value} {f8 : ByteArray} {f9 : Bool} {f10 : Int} (h : IsS60 w0 W g f0 f1 f2 f3 f4 f5 f6 f7 f8 f9 f10) (x : Int) : IsS60 w0 (W.setCell ⟨g, 10, none⟩ (.int .i64 x)) g f0 f1 f2 f3 f4 f5 f6 f7 f8 f9 x := by
 obtain ⟨hb, hg⟩ := h
 exact ⟨by simpa using blk_set hb 10 (.int .i64 x), hg⟩
def query_reader_quoted.l0 : Nat → Int → List Int → Int → ByteArray → Int → Int → ByteArray → Int → Value → ByteArray → Value → ByteArray → Bool → Int → Option (ByteArray × Int × Int × ByteArray × Int × ByteArray × ByteArray × Bool × Int)
 | 0, _, _, _, _, _, _, _, _, _, _, _, _, _, _ => none
 | k + 1, x1, x4, x5, x1000, x1001, x1002, x1003, x1004, x1005, x1006, x1007, x1008, x1009, x1010 => if x5 < (x1000.size : Int) then (if 0 ≤ x5 then (if (bt x1000 x5) = 34 then (some (x1000, wrap64 (x5 + 1), 4, strOfNums x4, x1, x1006, x1008, x1009, x1010)) else (if (bt x1000 x5) = 92 then (if (wrap64 (x5 + 1)) = (x1000.size : Int) then (some (x1000, x1001, x1002, x1003, x1004, x1006, x1008, x1009, x1010)) else (if 0 ≤ (wrap64 (x5 + 1)) then (if (wrap64 (x5 + 1)) < (x1000.size : Int) then (if (bt x1000 (wrap64 (x5 + 1))) = 34 then (if x4.length < 140737488355328 then (query_reader_quoted.l0 k x1 (x4 ++ [bt x1000 (wrap64 (x5 + 1))]) (wrap64 ((wrap64 (x5 + 1)) + 1)) x1000 x1001 x1002 x1003 x1004 x1005 x1006 x1007 x1008 x1009 x1010) else (none)) else (if (bt x1000 (wrap64 (x5 + 1))) = 92 then (if x4.length < 140737488355328 then (query_reader_quoted.l0 k x1 (x4 ++ [bt x1000 (wrap64 (x5 + 1))]) (wrap64 ((wrap64 (x5 + 1)) + 1)) x1000 x1001 x1002 x1003 x1004 x1005 x1006 x1007 x1008 x1009 x1010) else (none)) else (some (x1000, x1001, x1002, x1003, x1004, x1006, x1008, x1009, x1010)))) else (none)) else (none))) else (if x4.length < 140737488355328 then (query_reader_quoted.l0 k x1 (x4 ++ [bt x1000 x5]) (wrap64 (x5 + 1)) x1000 x1001 x1002 x1003 x1004 x1005 x1006 x1007 x1008 x1009 x1010) else (none)))) else (none)) else (some (x1000, x1001, x1002, x1003, x1004, x1006, x1008, x1009, x1010))
def query_reader_quoted.f (k : Nat) (s0_0 : ByteArray) (s0_1 : Int) (s0_2 : Int) (s0_3 : ByteArray) (s0_4 : Int) (s0_5 : Value) (s0_6 : ByteArray) (s0_7 : Value) (s0_8 : ByteArray) (s0_9 : Bool) (s0_10 : Int) (a1 : Int) : Option (ByteArray × Int × Int × ByteArray × Int × ByteArray × ByteArray × Bool × Int) := query_reader_quoted.l0 k a1 ([] : List Int) (wrap64 (a1 + 1)) s0_0 a1 1 (⟨#[]⟩ : ByteArray) a1 s0_5 s0_6 s0_7 s0_8 s0_9 s0_10
set_option maxHeartbeats 8000000 in
set_option maxRecDepth 100000 in
theorem query_reader_quoted.calls (k : Nat) (g : Nat) (s0_0 : ByteArray) (s0_1 : Int) (s0_2 : Int) (s0_3 : ByteArray) (s0_4 : Int) (s0_5 : Value) (s0_6 : ByteArray) (s0_7 : Value) (s0_8 : ByteArray) (s0_9 : Bool) (s0_10 : Int) (a1 : Int) (r1 : ByteArray) (r2 : Int) (r3 : Int) (r4 : ByteArray) (r5 : Int) (r6 : ByteArray) (r7 : ByteArray) (r8 : Bool) (r9 : Int) (w0 w : World) (hI : IsS60 w0 w g s0_0 s0_1 s0_2 s0_3 s0_4 s0_5 s0_6 s0_7 s0_8 s0_9 s0_10) (hB : Below w0.heap.size w0 w) (h : query_reader_quoted.f k s0_0 s0_1 s0_2 s0_3 s0_4 s0_5 s0_6 s0_7 s0_8 s0_9 s0_10 a1 = some (r1, r2, r3, r4, r5, r6, r7, r8, r9)) :
  Calls Tryz.prog 67 #[.pointer (some ⟨g, 0, none⟩), .int .i64 a1] w fun e w' => e = .returned (.tuple #[]) ∧ IsS60 w0 w' g r1 r2 r3 r4 r5 s0_5 r6 s0_7 r7 r8 r9 ∧ Below w0.heap.size w0 w' ∧ KeepBut w w' g none := by
 have hu58 := Tryz.underlying58
 have HI0 := Aside0.mk hI
 have HK := Aside0.mk (KeepBut.refl w g none)
 have HL := Aside0.mk hB.size
 clear hI
 have HW0 := Aside0.mk hB.size
 have HB := Aside0.mk hB
 clear hB
 have H : (query_reader_quoted.l0 k a1 ([] : List Int) (wrap64 (a1 + 1)) s0_0 a1 1 (⟨#[]⟩ : ByteArray) a1 s0_5 s0_6 s0_7 s0_8 s0_9 s0_10) = some (r1, r2, r3, r4, r5, r6, r7, r8, r9) := h
 clear h
 have H' := Aside0.mk H
 clear H
 obtain ⟨HGz3, hgz3⟩ := HI0.out
 have hcz3_0 := cellS60_0 HGz3
 have hcz3_1 := cellS60_1 HGz3
 have hcz3_2 := cellS60_2 HGz3
 have hcz3_3 := cellS60_3 HGz3
 have hcz3_4 := cellS60_4 HGz3
 have hcz3_5 := cellS60_5 HGz3
 have hcz3_6 := cellS60_6 HGz3
 have hcz3_7 := cellS60_7 HGz3
 have hcz3_8 := cellS60_8 HGz3
 have hcz3_9 := cellS60_9 HGz3
 have hcz3_10 := cellS60_10 HGz3
 have hfz3_0 := blk_frozen HGz3 0
 have hfz3_1 := blk_frozen HGz3 1
 have hfz3_2 := blk_frozen HGz3 2
 have hfz3_3 := blk_frozen HGz3 3
 have hfz3_4 := blk_frozen HGz3 4
 have hfz3_6 := blk_frozen HGz3 6
 have hfz3_8 := blk_frozen HGz3 8
 have hfz3_9 := blk_frozen HGz3 9
 have hfz3_10 := blk_frozen HGz3 10
 clear HGz3 hgz3
 go_enter Tryz.func67, Tryz.ntmps67
 go_wp2
 go_loopg [4, 5] k (fun kq v4 v5 w' => ∃ (x4_1 : List Int) (x5_1 : Int) (x1001_1 : Int) (x1002_1 : Int) (x1003_1 : ByteArray) (x1004_1 : Int), v5 = .int .i64 x5_1 ∧ Aside0 (query_reader_quoted.l0 kq a1 x4_1 x5_1 s0_0 x1001_1 x1002_1 x1003_1 x1004_1 s0_5 s0_6 s0_7 s0_8 s0_9 s0_10 = some (r1, r2, r3, r4, r5, r6, r7, r8, r9)) ∧ Aside0 (kq ≤ k) ∧ Aside0 (Kd.R (Kd.int .u8) 5 w' w.heap.size (fun _ => True) v4 x4_1) ∧ Aside0 (IsS60 w0 w' g s0_0 x1001_1 x1002_1 x1003_1 x1004_1 s0_5 s0_6 s0_7 s0_8 s0_9 s0_10) ∧ Aside0 (KeepBut w w' g none) ∧ Aside0 (Below w0.heap.size w0 w'))
 case atStart => exact ⟨(([] : List Int)), (wrap64 (a1 + 1)), (a1), (1), ((⟨#[]⟩ : ByteArray)), (a1), (by first | rfl | (simp; done) | (simp [*]; done)), H', ⟨Nat.le_refl _⟩, ⟨by first | exact Kd.R_nil _ _ _ _ _ | exact Kd.N_nil _ _ _ _ _ | exact Kd.V_nil _ _ _ _ _ | exact Kd.Q_nil _ _ _ _ _ | exact Kd.S_nil _ _ _ _ _⟩, ⟨by repeat (first | (with_reducible first | exact HI0.out | apply IsS60.alloc | apply IsS60.drewN | apply IsS60.drew | apply IsS60.set_0 | apply IsS60.set_1 | apply IsS60.set_2 | apply IsS60.set_3 | apply IsS60.set_4 | apply IsS60.set_6 | apply IsS60.set_8 | apply IsS60.set_9 | apply IsS60.set_10) | exact HI0.out)⟩, ⟨by repeat (first | (with_reducible first | exact HK.out | apply KeepBut.set_ | apply keep_drewN | apply keep_drew | apply keep_alloc) | exact HK.out)⟩, ⟨by repeat (first | (with_reducible first | exact HB.out | apply below_alloc | apply pw_below_drewN | apply below_drew1 | refine below_set ?_ (IsS60.ge HI0.out)) | exact HB.out)⟩⟩
 case round =>
  clear H'
  try clear hcz3_0
  try clear hcz3_1
  try clear hcz3_10
  try clear hcz3_2
  try clear hcz3_3
  try clear hcz3_4
  try clear hcz3_5
  try clear hcz3_6
  try clear hcz3_7
  try clear hcz3_8
  try clear hcz3_9
  try clear hfz3_0
  try clear hfz3_1
  try clear hfz3_10
  try clear hfz3_2
  try clear hfz3_3
  try clear hfz3_4
  try clear hfz3_6
  try clear hfz3_8
  try clear hfz3_9
  obtain ⟨x4_1, x5_1, x1001_1, x1002_1, x1003_1, x1004_1, rfl, HA, HK1, HO_4, HI0, HK, HB⟩ := hrel
  cases gk with
  | zero => exact absurd HA.out (by simp [query_reader_quoted.l0])
  | succ k1 =>
   have H := HA.out
   clear HA
   simp only [query_reader_quoted.l0] at H
   by_cases c4 : x5_1 < (s0_0.size : Int)
   ·
    rw [if_pos c4] at H
    have c4b0 : decide (x5_1 < (s0_0.size : Int)) = true := decide_eq_true c4
    clear c4
    by_cases c5 : 0 ≤ x5_1
    ·
     rw [if_pos c5] at H
     have c5b0 : decide (0 ≤ x5_1) = true := decide_eq_true c5
     clear c5
     by_cases c7 : (bt s0_0 x5_1) = 34
     ·
      rw [if_pos c7] at H
      have c7b0 : ((bt s0_0 x5_1) == 34) = true := beq_iff_eq.mpr c7
      have c7b1 : ((bt s0_0 x5_1) != 34) = false := bne_eq_false_iff_eq.mpr c7
      clear c7
      simp only [Option.some.injEq, Prod.mk.injEq] at H
      obtain ⟨rfl, rfl, rfl, rfl, rfl, rfl, rfl, rfl, rfl⟩ := H
      obtain ⟨HGz8, hgz8⟩ := HI0.out
      have hcz8_0 := cellS60_0 HGz8
      have hcz8_1 := cellS60_1 HGz8
      have hcz8_2 := cellS60_2 HGz8
      have hcz8_3 := cellS60_3 HGz8
      have hcz8_4 := cellS60_4 HGz8
      have hcz8_5 := cellS60_5 HGz8
      have hcz8_6 := cellS60_6 HGz8
      have hcz8_7 := cellS60_7 HGz8
      have hcz8_8 := cellS60_8 HGz8
      have hcz8_9 := cellS60_9 HGz8
      have hcz8_10 := cellS60_10 HGz8
      have hfz8_0 := blk_frozen HGz8 0
      have hfz8_1 := blk_frozen HGz8 1
      have hfz8_2 := blk_frozen HGz8 2
      have hfz8_3 := blk_frozen HGz8 3
      have hfz8_4 := blk_frozen HGz8 4
      have hfz8_6 := blk_frozen HGz8 6
      have hfz8_8 := blk_frozen HGz8 8
      have hfz8_9 := blk_frozen HGz8 9
      have hfz8_10 := blk_frozen HGz8 10
      clear HGz8 hgz8
      have p6 : 0 ≤ (x5_1 : Int) := of_decide_eq_true (by first | (with_reducible assumption) | assumption)
      have q6 : x5_1 < (s0_0.size : Int) := of_decide_eq_true (by first | (with_reducible assumption) | assumption)
      have hx6 := bt_at s0_0 x5_1
      replace p6 := eq_true p6
      replace q6 := eq_true q6
      have hcv9 := own_string (P := Tryz.prog) Tryz.underlying95 Tryz.underlying5 Tryz.underlying9 (Kd.own_of_R HO_4.out)
      go_wp2
      first | go_end0 | ((try simp only [Exit.inBlock, Exit.then]); refine bodyPost_ret (results_none rfl _ _ _) rfl ?_)
      exact ⟨by first | rfl | (simp [errW_none, errW_some] <;> rfl) | (simp [*, errW_none, errW_some] <;> rfl), by repeat (first | (with_reducible first | exact HI0.out | apply IsS60.alloc | apply IsS60.drewN | apply IsS60.drew | apply IsS60.set_0 | apply IsS60.set_1 | apply IsS60.set_2 | apply IsS60.set_3 | apply IsS60.set_4 | apply IsS60.set_6 | apply IsS60.set_8 | apply IsS60.set_9 | apply IsS60.set_10) | exact HI0.out), by repeat (first | (with_reducible first | exact HB.out | apply below_alloc | apply pw_below_drewN | apply below_drew1 | refine below_set ?_ (IsS60.ge HI0.out)) | exact HB.out), by repeat (first | (with_reducible first | exact HK.out | apply KeepBut.set_ | apply keep_drewN | apply keep_drew | apply keep_alloc) | exact HK.out)⟩
     ·
      rw [if_neg c7] at H
      have c7b0 : ((bt s0_0 x5_1) == 34) = false := beq_eq_false_iff_ne.mpr c7
      have c7b1 : ((bt s0_0 x5_1) != 34) = true := bne_iff_ne.mpr c7
      by_cases c10 : (bt s0_0 x5_1) = 92
      ·
       rw [if_pos c10] at H
       have c10b0 : ((bt s0_0 x5_1) == 92) = true := beq_iff_eq.mpr c10
       have c10b1 : ((bt s0_0 x5_1) != 92) = false := bne_eq_false_iff_eq.mpr c10
       clear c10
       by_cases c11 : (wrap64 (x5_1 + 1)) = (s0_0.size : Int)
       ·
        rw [if_pos c11] at H
        have c11b0 : ((wrap64 (x5_1 + 1)) == (s0_0.size : Int)) = true := beq_iff_eq.mpr c11
        have c11b1 : ((wrap64 (x5_1 + 1)) != (s0_0.size : Int)) = false := bne_eq_false_iff_eq.mpr c11
        clear c11
        simp only [Option.some.injEq, Prod.mk.injEq] at H
        obtain ⟨rfl, rfl, rfl, rfl, rfl, rfl, rfl, rfl, rfl⟩ := H
        obtain ⟨HGz12, hgz12⟩ := HI0.out
        have hcz12_0 := cellS60_0 HGz12
        have hcz12_1 := cellS60_1 HGz12
        have hcz12_2 := cellS60_2 HGz12
        have hcz12_3 := cellS60_3 HGz12
        have hcz12_4 := cellS60_4 HGz12
        have hcz12_5 := cellS60_5 HGz12
        have hcz12_6 := cellS60_6 HGz12
        have hcz12_7 := cellS60_7 HGz12
        have hcz12_8 := cellS60_8 HGz12
        have hcz12_9 := cellS60_9 HGz12
        have hcz12_10 := cellS60_10 HGz12
        have hfz12_0 := blk_frozen HGz12 0
        have hfz12_1 := blk_frozen HGz12 1
        have hfz12_2 := blk_frozen HGz12 2
        have hfz12_3 := blk_frozen HGz12 3
        have hfz12_4 := blk_frozen HGz12 4
        have hfz12_6 := blk_frozen HGz12 6
        have hfz12_8 := blk_frozen HGz12 8
        have hfz12_9 := blk_frozen HGz12 9
        have hfz12_10 := blk_frozen HGz12 10
        clear HGz12 hgz12
        have p6 : 0 ≤ (x5_1 : Int) := of_decide_eq_true (by first | (with_reducible assumption) | assumption)
        have q6 : x5_1 < (s0_0.size : Int) := of_decide_eq_true (by first | (with_reducible assumption) | assumption)
        have hx6 := bt_at s0_0 x5_1
        replace p6 := eq_true p6
        replace q6 := eq_true q6
        go_wp2
        first | go_end0 | ((try simp only [Exit.inBlock, Exit.then]); refine bodyPost_ret (results_none rfl _ _ _) rfl ?_)
        exact ⟨by first | rfl | (simp [errW_none, errW_some] <;> rfl) | (simp [*, errW_none, errW_some] <;> rfl), by repeat (first | (with_reducible first | exact HI0.out | apply IsS60.alloc | apply IsS60.drewN | apply IsS60.drew | apply IsS60.set_0 | apply IsS60.set_1 | apply IsS60.set_2 | apply IsS60.set_3 | apply IsS60.set_4 | apply IsS60.set_6 | apply IsS60.set_8 | apply IsS60.set_9 | apply IsS60.set_10) | exact HI0.out), by repeat (first | (with_reducible first | exact HB.out | apply below_alloc | apply pw_below_drewN | apply below_drew1 | refine below_set ?_ (IsS60.ge HI0.out)) | exact HB.out), by repeat (first | (with_reducible first | exact HK.out | apply KeepBut.set_ | apply keep_drewN | apply keep_drew | apply keep_alloc) | exact HK.out)⟩
       ·
        rw [if_neg c11] at H
        have c11b0 : ((wrap64 (x5_1 + 1)) == (s0_0.size : Int)) = false := beq_eq_false_iff_ne.mpr c11
        have c11b1 : ((wrap64 (x5_1 + 1)) != (s0_0.size : Int)) = true := bne_iff_ne.mpr c11
        obtain ⟨ji13, hji13⟩ : ∃ j_ : Int, (wrap64 (x5_1 + 1)) = j_ := ⟨_, rfl⟩
        replace H : (if 0 ≤ (ji13) then (if (ji13) < (s0_0.size : Int) then (if (bt s0_0 (ji13)) = 34 then (if x4_1.length < 140737488355328 then (query_reader_quoted.l0 k1 a1 (x4_1 ++ [bt s0_0 (ji13)]) (wrap64 ((ji13) + 1)) s0_0 x1001_1 x1002_1 x1003_1 x1004_1 s0_5 s0_6 s0_7 s0_8 s0_9 s0_10) else (none)) else (if (bt s0_0 (ji13)) = 92 then (if x4_1.length < 140737488355328 then (query_reader_quoted.l0 k1 a1 (x4_1 ++ [bt s0_0 (ji13)]) (wrap64 ((ji13) + 1)) s0_0 x1001_1 x1002_1 x1003_1 x1004_1 s0_5 s0_6 s0_7 s0_8 s0_9 s0_10) else (none)) else (some (s0_0, x1001_1, x1002_1, x1003_1, x1004_1, s0_6, s0_8, s0_9, s0_10)))) else (none)) else (none)) = some (r1, r2, r3, r4, r5, r6, r7, r8, r9) := by first | (rw [hji13] at H; exact H) | (simp only [hji13] at H ⊢; exact H)
        (try rw [hji13] at c11b0)
        (try rw [hji13] at c11b1)
        have hji13w : (IntKind.i64.wrap (x5_1 + 1)) = ji13 := (i64_w _).trans hji13
        by_cases c14 : 0 ≤ (ji13)
        ·
         rw [if_pos c14] at H
         have c14b0 : decide (0 ≤ (ji13)) = true := decide_eq_true c14
         clear c14
         by_cases c15 : (ji13) < (s0_0.size : Int)
         ·
          rw [if_pos c15] at H
          have c15b0 : decide ((ji13) < (s0_0.size : Int)) = true := decide_eq_true c15
          clear c15
          by_cases c17 : (bt s0_0 (ji13)) = 34
          ·
           rw [if_pos c17] at H
           have c17b0 : ((bt s0_0 (ji13)) == 34) = true := beq_iff_eq.mpr c17
           have c17b1 : ((bt s0_0 (ji13)) != 34) = false := bne_eq_false_iff_eq.mpr c17
           clear c17
           by_cases c19 : x4_1.length < 140737488355328
           ·
            rw [if_pos c19] at H
            have LMc19 := Aside0.mk c19
            clear c19
            obtain ⟨y141, hy141⟩ : ∃ y_ : List Int, y_ = (x4_1 ++ [bt s0_0 (ji13)]) := ⟨_, rfl⟩
            replace H : (query_reader_quoted.l0 k1 a1 y141 (wrap64 ((ji13) + 1)) s0_0 x1001_1 x1002_1 x1003_1 x1004_1 s0_5 s0_6 s0_7 s0_8 s0_9 s0_10) = some (r1, r2, r3, r4, r5, r6, r7, r8, r9) := by first | (rw [hy141]; with_reducible exact H) | (have H2_ := (Option.bind_some _ _).symm.trans H; rw [hy141]; with_reducible exact H2_) | (have H2_ := (Option.bind_some _ _).symm.trans H; with_reducible exact H2_) | with_reducible exact H | (rw [hy141]; exact H) | exact H
            have Ny141 := Aside0.mk hy141
            clear hy141
            have H' := Aside0.mk H
            clear H
            obtain ⟨HGz20, hgz20⟩ := HI0.out
            have hcz20_0 := cellS60_0 HGz20
            have hcz20_1 := cellS60_1 HGz20
            have hcz20_2 := cellS60_2 HGz20
            have hcz20_3 := cellS60_3 HGz20
            have hcz20_4 := cellS60_4 HGz20
            have hcz20_5 := cellS60_5 HGz20
            have hcz20_6 := cellS60_6 HGz20
            have hcz20_7 := cellS60_7 HGz20
            have hcz20_8 := cellS60_8 HGz20
            have hcz20_9 := cellS60_9 HGz20
            have hcz20_10 := cellS60_10 HGz20
            have hfz20_0 := blk_frozen HGz20 0
            have hfz20_1 := blk_frozen HGz20 1
            have hfz20_2 := blk_frozen HGz20 2
            have hfz20_3 := blk_frozen HGz20 3
            have hfz20_4 := blk_frozen HGz20 4
            have hfz20_6 := blk_frozen HGz20 6
            have hfz20_8 := blk_frozen HGz20 8
            have hfz20_9 := blk_frozen HGz20 9
            have hfz20_10 := blk_frozen HGz20 10
            clear HGz20 hgz20
            have p6 : 0 ≤ (x5_1 : Int) := of_decide_eq_true (by first | (with_reducible assumption) | assumption)
            have q6 : x5_1 < (s0_0.size : Int) := of_decide_eq_true (by first | (with_reducible assumption) | assumption)
            have hx6 := bt_at s0_0 x5_1
            replace p6 := eq_true p6
            replace q6 := eq_true q6
            have p16 : 0 ≤ ((ji13) : Int) := of_decide_eq_true (by first | (with_reducible assumption) | assumption)
            have q16 : (ji13) < (s0_0.size : Int) := of_decide_eq_true (by first | (with_reducible assumption) | assumption)
            have hx16 := bt_at s0_0 (ji13)
            replace p16 := eq_true p16
            replace q16 := eq_true q16
            have p18 : 0 ≤ ((ji13) : Int) := of_decide_eq_true (by first | (with_reducible assumption) | assumption)
            have q18 : (ji13) < (s0_0.size : Int) := of_decide_eq_true (by first | (with_reducible assumption) | assumption)
            have hx18 := bt_at s0_0 (ji13)
            replace p18 := eq_true p18
            replace q18 := eq_true q18
            go_wp2_with (first | ((with_reducible refine gate_builtin (b := .append) (xs := #[.tmp 81, .tmp 88]) rfl ?_); at_builtin; refine Kd.R_append (Kd.int .u8) w.heap.size rfl (.tmp 81) (.tmp 88) 95 5 (.int .u8 0) 1 rfl Tryz.underlying95 info5 rfl (by decide) (by omega) u4 x4_1 (bt s0_0 (ji13)) [.int .u8 (bt s0_0 (ji13))] (fun _ => True) (fun _ => False) rfl rfl ?aP (fun _ hk => hk.elim) ?aF ?aO (Below.refl _ _) ?aS ?aL ?_; (case aP => exact rfl); (case aF => exact (fun _ _ => trivial)); (case aO => exact (by (with_reducible repeat (first | apply Kd.R_alloc | apply Kd.R_drewN | apply Kd.R_drew)); exact HO_4.out)); (case aS => exact (keep_size (w := w) (g := g) (row := none) (by repeat (first | (with_reducible first | exact HK.out | apply KeepBut.set_ | apply keep_drewN | apply keep_drew | apply keep_alloc) | exact HK.out)))); (case aL => have := LMc19.out; omega); intro v142 w21 ho hb hg hat; rw [← Ny141.out] at ho; have n0_ := Aside0.mk (IsS60.grown (by repeat (first | (with_reducible first | exact HI0.out | apply IsS60.alloc | apply IsS60.drewN | apply IsS60.drew | apply IsS60.set_0 | apply IsS60.set_1 | apply IsS60.set_2 | apply IsS60.set_3 | apply IsS60.set_4 | apply IsS60.set_6 | apply IsS60.set_8 | apply IsS60.set_9 | apply IsS60.set_10) | exact HI0.out)) hg (IsS60.own_ne HI0.out HO_4.out (by decide))); have n1_ := Aside0.mk (below_weaken (by repeat (first | (with_reducible first | exact HB.out | apply below_alloc | apply pw_below_drewN | apply below_drew1 | refine below_set ?_ (IsS60.ge HI0.out)) | exact HB.out)) HL.out hb); have n2_ := Aside0.mk (KeepBut.trans (by repeat (first | (with_reducible first | exact HK.out | apply KeepBut.set_ | apply keep_drewN | apply keep_drew | apply keep_alloc) | exact HK.out)) (KeepBut.of_grown hg g) (Kd.R_base2 HO_4.out)); have n3_ := Aside0.mk (ho); clear HI0; clear HB; clear HK; clear HO_4; have HI0 := n0_; have HB := n1_; have HK := n2_; have HO143 := n3_; clear n0_ n1_ n2_ n3_; clear ho hb hg hat))
            go_roundg k1
            case measure => have := HK1.out; omega
            case rel => exact ⟨(y141), (wrap64 ((ji13) + 1)), (x1001_1), (x1002_1), (x1003_1), (x1004_1), (by first | rfl | (simp; done) | (simp only [← hji13] <;> (first | rfl | simp)) | (simp [*]; done)), H', ⟨by have := HK1.out; omega⟩, ⟨by (with_reducible repeat (first | apply Kd.R_alloc | apply Kd.R_drewN | apply Kd.R_drew)); exact HO143.out⟩, ⟨by repeat (first | (with_reducible first | exact HI0.out | apply IsS60.alloc | apply IsS60.drewN | apply IsS60.drew | apply IsS60.set_0 | apply IsS60.set_1 | apply IsS60.set_2 | apply IsS60.set_3 | apply IsS60.set_4 | apply IsS60.set_6 | apply IsS60.set_8 | apply IsS60.set_9 | apply IsS60.set_10) | exact HI0.out)⟩, ⟨by repeat (first | (with_reducible first | exact HK.out | apply KeepBut.set_ | apply keep_drewN | apply keep_drew | apply keep_alloc) | exact HK.out)⟩, ⟨by repeat (first | (with_reducible first | exact HB.out | apply below_alloc | apply pw_below_drewN | apply below_drew1 | refine below_set ?_ (IsS60.ge HI0.out)) | exact HB.out)⟩⟩
           ·
            rw [if_neg c19] at H
            exact absurd H (by simp)
          ·
           rw [if_neg c17] at H
           have c17b0 : ((bt s0_0 (ji13)) == 34) = false := beq_eq_false_iff_ne.mpr c17
           have c17b1 : ((bt s0_0 (ji13)) != 34) = true := bne_iff_ne.mpr c17
           by_cases c23 : (bt s0_0 (ji13)) = 92
           ·
            rw [if_pos c23] at H
            have c23b0 : ((bt s0_0 (ji13)) == 92) = true := beq_iff_eq.mpr c23
            have c23b1 : ((bt s0_0 (ji13)) != 92) = false := bne_eq_false_iff_eq.mpr c23
            clear c23
            by_cases c25 : x4_1.length < 140737488355328
            ·
             rw [if_pos c25] at H
             have LMc25 := Aside0.mk c25
             clear c25
             obtain ⟨y144, hy144⟩ : ∃ y_ : List Int, y_ = (x4_1 ++ [bt s0_0 (ji13)]) := ⟨_, rfl⟩
             replace H : (query_reader_quoted.l0 k1 a1 y144 (wrap64 ((ji13) + 1)) s0_0 x1001_1 x1002_1 x1003_1 x1004_1 s0_5 s0_6 s0_7 s0_8 s0_9 s0_10) = some (r1, r2, r3, r4, r5, r6, r7, r8, r9) := by first | (rw [hy144]; with_reducible exact H) | (have H2_ := (Option.bind_some _ _).symm.trans H; rw [hy144]; with_reducible exact H2_) | (have H2_ := (Option.bind_some _ _).symm.trans H; with_reducible exact H2_) | with_reducible exact H | (rw [hy144]; exact H) | exact H
             have Ny144 := Aside0.mk hy144
             clear hy144
             have H' := Aside0.mk H
             clear H
             obtain ⟨HGz26, hgz26⟩ := HI0.out
             have hcz26_0 := cellS60_0 HGz26
             have hcz26_1 := cellS60_1 HGz26
             have hcz26_2 := cellS60_2 HGz26
             have hcz26_3 := cellS60_3 HGz26
             have hcz26_4 := cellS60_4 HGz26
             have hcz26_5 := cellS60_5 HGz26
             have hcz26_6 := cellS60_6 HGz26
             have hcz26_7 := cellS60_7 HGz26
             have hcz26_8 := cellS60_8 HGz26
             have hcz26_9 := cellS60_9 HGz26
             have hcz26_10 := cellS60_10 HGz26
             have hfz26_0 := blk_frozen HGz26 0
             have hfz26_1 := blk_frozen HGz26 1
             have hfz26_2 := blk_frozen HGz26 2
             have hfz26_3 := blk_frozen HGz26 3
             have hfz26_4 := blk_frozen HGz26 4
             have hfz26_6 := blk_frozen HGz26 6
             have hfz26_8 := blk_frozen HGz26 8
             have hfz26_9 := blk_frozen HGz26 9
             have hfz26_10 := blk_frozen HGz26 10
             clear HGz26 hgz26
             have p6 : 0 ≤ (x5_1 : Int) := of_decide_eq_true (by first | (with_reducible assumption) | assumption)
             have q6 : x5_1 < (s0_0.size : Int) := of_decide_eq_true (by first | (with_reducible assumption) | assumption)
             have hx6 := bt_at s0_0 x5_1
             replace p6 := eq_true p6
             replace q6 := eq_true q6
             have p16 : 0 ≤ ((ji13) : Int) := of_decide_eq_true (by first | (with_reducible assumption) | assumption)
             have q16 : (ji13) < (s0_0.size : Int) := of_decide_eq_true (by first | (with_reducible assumption) | assumption)
             have hx16 := bt_at s0_0 (ji13)
             replace p16 := eq_true p16
             replace q16 := eq_true q16
             have p22 : 0 ≤ ((ji13) : Int) := of_decide_eq_true (by first | (with_reducible assumption) | assumption)
             have q22 : (ji13) < (s0_0.size : Int) := of_decide_eq_true (by first | (with_reducible assumption) | assumption)
             have hx22 := bt_at s0_0 (ji13)
             replace p22 := eq_true p22
             replace q22 := eq_true q22
             have p24 : 0 ≤ ((ji13) : Int) := of_decide_eq_true (by first | (with_reducible assumption) | assumption)
             have q24 : (ji13) < (s0_0.size : Int) := of_decide_eq_true (by first | (with_reducible assumption) | assumption)
             have hx24 := bt_at s0_0 (ji13)
             replace p24 := eq_true p24
             replace q24 := eq_true q24
             go_wp2_with (first | ((with_reducible refine gate_builtin (b := .append) (xs := #[.tmp 81, .tmp 88]) rfl ?_); at_builtin; refine Kd.R_append (Kd.int .u8) w.heap.size rfl (.tmp 81) (.tmp 88) 95 5 (.int .u8 0) 1 rfl Tryz.underlying95 info5 rfl (by decide) (by omega) u4 x4_1 (bt s0_0 (ji13)) [.int .u8 (bt s0_0 (ji13))] (fun _ => True) (fun _ => False) rfl rfl ?aP (fun _ hk => hk.elim) ?aF ?aO (Below.refl _ _) ?aS ?aL ?_; (case aP => exact rfl); (case aF => exact (fun _ _ => trivial)); (case aO => exact (by (with_reducible repeat (first | apply Kd.R_alloc | apply Kd.R_drewN | apply Kd.R_drew)); exact HO_4.out)); (case aS => exact (keep_size (w := w) (g := g) (row := none) (by repeat (first | (with_reducible first | exact HK.out | apply KeepBut.set_ | apply keep_drewN | apply keep_drew | apply keep_alloc) | exact HK.out)))); (case aL => have := LMc25.out; omega); intro v145 w27 ho hb hg hat; rw [← Ny144.out] at ho; have n0_ := Aside0.mk (IsS60.grown (by repeat (first | (with_reducible first | exact HI0.out | apply IsS60.alloc | apply IsS60.drewN | apply IsS60.drew | apply IsS60.set_0 | apply IsS60.set_1 | apply IsS60.set_2 | apply IsS60.set_3 | apply IsS60.set_4 | apply IsS60.set_6 | apply IsS60.set_8 | apply IsS60.set_9 | apply IsS60.set_10) | exact HI0.out)) hg (IsS60.own_ne HI0.out HO_4.out (by decide))); have n1_ := Aside0.mk (below_weaken (by repeat (first | (with_reducible first | exact HB.out | apply below_alloc | apply pw_below_drewN | apply below_drew1 | refine below_set ?_ (IsS60.ge HI0.out)) | exact HB.out)) HL.out hb); have n2_ := Aside0.mk (KeepBut.trans (by repeat (first | (with_reducible first | exact HK.out | apply KeepBut.set_ | apply keep_drewN | apply keep_drew | apply keep_alloc) | exact HK.out)) (KeepBut.of_grown hg g) (Kd.R_base2 HO_4.out)); have n3_ := Aside0.mk (ho); clear HI0; clear HB; clear HK; clear HO_4; have HI0 := n0_; have HB := n1_; have HK := n2_; have HO146 := n3_; clear n0_ n1_ n2_ n3_; clear ho hb hg hat))
             go_roundg k1
             case measure => have := HK1.out; omega
             case rel => exact ⟨(y144), (wrap64 ((ji13) + 1)), (x1001_1), (x1002_1), (x1003_1), (x1004_1), (by first | rfl | (simp; done) | (simp only [← hji13] <;> (first | rfl | simp)) | (simp [*]; done)), H', ⟨by have := HK1.out; omega⟩, ⟨by (with_reducible repeat (first | apply Kd.R_alloc | apply Kd.R_drewN | apply Kd.R_drew)); exact HO146.out⟩, ⟨by repeat (first | (with_reducible first | exact HI0.out | apply IsS60.alloc | apply IsS60.drewN | apply IsS60.drew | apply IsS60.set_0 | apply IsS60.set_1 | apply IsS60.set_2 | apply IsS60.set_3 | apply IsS60.set_4 | apply IsS60.set_6 | apply IsS60.set_8 | apply IsS60.set_9 | apply IsS60.set_10) | exact HI0.out)⟩, ⟨by repeat (first | (with_reducible first | exact HK.out | apply KeepBut.set_ | apply keep_drewN | apply keep_drew | apply keep_alloc) | exact HK.out)⟩, ⟨by repeat (first | (with_reducible first | exact HB.out | apply below_alloc | apply pw_below_drewN | apply below_drew1 | refine below_set ?_ (IsS60.ge HI0.out)) | exact HB.out)⟩⟩
            ·
             rw [if_neg c25] at H
             exact absurd H (by simp)
           ·
            rw [if_neg c23] at H
            have c23b0 : ((bt s0_0 (ji13)) == 92) = false := beq_eq_false_iff_ne.mpr c23
            have c23b1 : ((bt s0_0 (ji13)) != 92) = true := bne_iff_ne.mpr c23
            simp only [Option.some.injEq, Prod.mk.injEq] at H
            obtain ⟨rfl, rfl, rfl, rfl, rfl, rfl, rfl, rfl, rfl⟩ := H
            obtain ⟨HGz28, hgz28⟩ := HI0.out
            have hcz28_0 := cellS60_0 HGz28
            have hcz28_1 := cellS60_1 HGz28
            have hcz28_2 := cellS60_2 HGz28
            have hcz28_3 := cellS60_3 HGz28
            have hcz28_4 := cellS60_4 HGz28
            have hcz28_5 := cellS60_5 HGz28
            have hcz28_6 := cellS60_6 HGz28
            have hcz28_7 := cellS60_7 HGz28
            have hcz28_8 := cellS60_8 HGz28
            have hcz28_9 := cellS60_9 HGz28
            have hcz28_10 := cellS60_10 HGz28
            have hfz28_0 := blk_frozen HGz28 0
            have hfz28_1 := blk_frozen HGz28 1
            have hfz28_2 := blk_frozen HGz28 2
            have hfz28_3 := blk_frozen HGz28 3
            have hfz28_4 := blk_frozen HGz28 4
            have hfz28_6 := blk_frozen HGz28 6
            have hfz28_8 := blk_frozen HGz28 8
            have hfz28_9 := blk_frozen HGz28 9
            have hfz28_10 := blk_frozen HGz28 10
            clear HGz28 hgz28
            have p6 : 0 ≤ (x5_1 : Int) := of_decide_eq_true (by first | (with_reducible assumption) | assumption)
            have q6 : x5_1 < (s0_0.size : Int) := of_decide_eq_true (by first | (with_reducible assumption) | assumption)
            have hx6 := bt_at s0_0 x5_1
            replace p6 := eq_true p6
            replace q6 := eq_true q6
            have p16 : 0 ≤ ((ji13) : Int) := of_decide_eq_true (by first | (with_reducible assumption) | assumption)
            have q16 : (ji13) < (s0_0.size : Int) := of_decide_eq_true (by first | (with_reducible assumption) | assumption)
            have hx16 := bt_at s0_0 (ji13)
            replace p16 := eq_true p16
            replace q16 := eq_true q16
            have p22 : 0 ≤ ((ji13) : Int) := of_decide_eq_true (by first | (with_reducible assumption) | assumption)
            have q22 : (ji13) < (s0_0.size : Int) := of_decide_eq_true (by first | (with_reducible assumption) | assumption)
            have hx22 := bt_at s0_0 (ji13)
            replace p22 := eq_true p22
            replace q22 := eq_true q22
            go_wp2
            first | go_end0 | ((try simp only [Exit.inBlock, Exit.then]); refine bodyPost_ret (results_none rfl _ _ _) rfl ?_)
            exact ⟨by first | rfl | (simp [errW_none, errW_some] <;> rfl) | (simp only [← hji13]; first | rfl | (simp [errW_none, errW_some] <;> rfl)) | (simp [*, errW_none, errW_some] <;> rfl), by repeat (first | (with_reducible first | exact HI0.out | apply IsS60.alloc | apply IsS60.drewN | apply IsS60.drew | apply IsS60.set_0 | apply IsS60.set_1 | apply IsS60.set_2 | apply IsS60.set_3 | apply IsS60.set_4 | apply IsS60.set_6 | apply IsS60.set_8 | apply IsS60.set_9 | apply IsS60.set_10) | exact HI0.out), by repeat (first | (with_reducible first | exact HB.out | apply below_alloc | apply pw_below_drewN | apply below_drew1 | refine below_set ?_ (IsS60.ge HI0.out)) | exact HB.out), by repeat (first | (with_reducible first | exact HK.out | apply KeepBut.set_ | apply keep_drewN | apply keep_drew | apply keep_alloc) | exact HK.out)⟩
         ·
          rw [if_neg c15] at H
          exact absurd H (by simp)
        ·
         rw [if_neg c14] at H
         exact absurd H (by simp)
      ·
       rw [if_neg c10] at H
       have c10b0 : ((bt s0_0 x5_1) == 92) = false := beq_eq_false_iff_ne.mpr c10
       have c10b1 : ((bt s0_0 x5_1) != 92) = true := bne_iff_ne.mpr c10
       by_cases c29 : x4_1.length < 140737488355328
       ·
        rw [if_pos c29] at H
        have LMc29 := Aside0.mk c29
        clear c29
        obtain ⟨y147, hy147⟩ : ∃ y_ : List Int, y_ = (x4_1 ++ [bt s0_0 x5_1]) := ⟨_, rfl⟩
        replace H : (query_reader_quoted.l0 k1 a1 y147 (wrap64 (x5_1 + 1)) s0_0 x1001_1 x1002_1 x1003_1 x1004_1 s0_5 s0_6 s0_7 s0_8 s0_9 s0_10) = some (r1, r2, r3, r4, r5, r6, r7, r8, r9) := by first | (rw [hy147]; with_reducible exact H) | (have H2_ := (Option.bind_some _ _).symm.trans H; rw [hy147]; with_reducible exact H2_) | (have H2_ := (Option.bind_some _ _).symm.trans H; with_reducible exact H2_) | with_reducible exact H | (rw [hy147]; exact H) | exact H
        have Ny147 := Aside0.mk hy147
        clear hy147
        have H' := Aside0.mk H
        clear H
        obtain ⟨HGz30, hgz30⟩ := HI0.out
        have hcz30_0 := cellS60_0 HGz30
        have hcz30_1 := cellS60_1 HGz30
        have hcz30_2 := cellS60_2 HGz30
        have hcz30_3 := cellS60_3 HGz30
        have hcz30_4 := cellS60_4 HGz30
        have hcz30_5 := cellS60_5 HGz30
        have hcz30_6 := cellS60_6 HGz30
        have hcz30_7 := cellS60_7 HGz30
        have hcz30_8 := cellS60_8 HGz30
        have hcz30_9 := cellS60_9 HGz30
        have hcz30_10 := cellS60_10 HGz30
        have hfz30_0 := blk_frozen HGz30 0
        have hfz30_1 := blk_frozen HGz30 1
        have hfz30_2 := blk_frozen HGz30 2
        have hfz30_3 := blk_frozen HGz30 3
        have hfz30_4 := blk_frozen HGz30 4
        have hfz30_6 := blk_frozen HGz30 6
        have hfz30_8 := blk_frozen HGz30 8
        have hfz30_9 := blk_frozen HGz30 9
        have hfz30_10 := blk_frozen HGz30 10
        clear HGz30 hgz30
        have p6 : 0 ≤ (x5_1 : Int) := of_decide_eq_true (by first | (with_reducible assumption) | assumption)
        have q6 : x5_1 < (s0_0.size : Int) := of_decide_eq_true (by first | (with_reducible assumption) | assumption)
        have hx6 := bt_at s0_0 x5_1
        replace p6 := eq_true p6
        replace q6 := eq_true q6
        go_wp2_with (first | ((with_reducible refine gate_builtin (b := .append) (xs := #[.tmp 34, .tmp 36]) rfl ?_); at_builtin; refine Kd.R_append (Kd.int .u8) w.heap.size rfl (.tmp 34) (.tmp 36) 95 5 (.int .u8 0) 1 rfl Tryz.underlying95 info5 rfl (by decide) (by omega) u4 x4_1 (bt s0_0 x5_1) [.int .u8 (bt s0_0 x5_1)] (fun _ => True) (fun _ => False) rfl rfl ?aP (fun _ hk => hk.elim) ?aF ?aO (Below.refl _ _) ?aS ?aL ?_; (case aP => exact rfl); (case aF => exact (fun _ _ => trivial)); (case aO => exact (by (with_reducible repeat (first | apply Kd.R_alloc | apply Kd.R_drewN | apply Kd.R_drew)); exact HO_4.out)); (case aS => exact (keep_size (w := w) (g := g) (row := none) (by repeat (first | (with_reducible first | exact HK.out | apply KeepBut.set_ | apply keep_drewN | apply keep_drew | apply keep_alloc) | exact HK.out)))); (case aL => have := LMc29.out; omega); intro v148 w31 ho hb hg hat; rw [← Ny147.out] at ho; have n0_ := Aside0.mk (IsS60.grown (by repeat (first | (with_reducible first | exact HI0.out | apply IsS60.alloc | apply IsS60.drewN | apply IsS60.drew | apply IsS60.set_0 | apply IsS60.set_1 | apply IsS60.set_2 | apply IsS60.set_3 | apply IsS60.set_4 | apply IsS60.set_6 | apply IsS60.set_8 | apply IsS60.set_9 | apply IsS60.set_10) | exact HI0.out)) hg (IsS60.own_ne HI0.out HO_4.out (by decide))); have n1_ := Aside0.mk (below_weaken (by repeat (first | (with_reducible first | exact HB.out | apply below_alloc | apply pw_below_drewN | apply below_drew1 | refine below_set ?_ (IsS60.ge HI0.out)) | exact HB.out)) HL.out hb); have n2_ := Aside0.mk (KeepBut.trans (by repeat (first | (with_reducible first | exact HK.out | apply KeepBut.set_ | apply keep_drewN | apply keep_drew | apply keep_alloc) | exact HK.out)) (KeepBut.of_grown hg g) (Kd.R_base2 HO_4.out)); have n3_ := Aside0.mk (ho); clear HI0; clear HB; clear HK; clear HO_4; have HI0 := n0_; have HB := n1_; have HK := n2_; have HO149 := n3_; clear n0_ n1_ n2_ n3_; clear ho hb hg hat))
        go_roundg k1
        case measure => have := HK1.out; omega
        case rel => exact ⟨(y147), (wrap64 (x5_1 + 1)), (x1001_1), (x1002_1), (x1003_1), (x1004_1), (by first | rfl | (simp; done) | (simp [*]; done)), H', ⟨by have := HK1.out; omega⟩, ⟨by (with_reducible repeat (first | apply Kd.R_alloc | apply Kd.R_drewN | apply Kd.R_drew)); exact HO149.out⟩, ⟨by repeat (first | (with_reducible first | exact HI0.out | apply IsS60.alloc | apply IsS60.drewN | apply IsS60.drew | apply IsS60.set_0 | apply IsS60.set_1 | apply IsS60.set_2 | apply IsS60.set_3 | apply IsS60.set_4 | apply IsS60.set_6 | apply IsS60.set_8 | apply IsS60.set_9 | apply IsS60.set_10) | exact HI0.out)⟩, ⟨by repeat (first | (with_reducible first | exact HK.out | apply KeepBut.set_ | apply keep_drewN | apply keep_drew | apply keep_alloc) | exact HK.out)⟩, ⟨by repeat (first | (with_reducible first | exact HB.out | apply below_alloc | apply pw_below_drewN | apply below_drew1 | refine below_set ?_ (IsS60.ge HI0.out)) | exact HB.out)⟩⟩
       ·
        rw [if_neg c29] at H
        exact absurd H (by simp)
    ·
     rw [if_neg c5] at H
     exact absurd H (by simp)
   ·
    rw [if_neg c4] at H
    have c4b0 : decide (x5_1 < (s0_0.size : Int)) = false := decide_eq_false c4
    clear c4
    simp only [Option.some.injEq, Prod.mk.injEq] at H
    obtain ⟨rfl, rfl, rfl, rfl, rfl, rfl, rfl, rfl, rfl⟩ := H
    obtain ⟨HGz32, hgz32⟩ := HI0.out
    have hcz32_0 := cellS60_0 HGz32
    have hcz32_1 := cellS60_1 HGz32
    have hcz32_2 := cellS60_2 HGz32
    have hcz32_3 := cellS60_3 HGz32
    have hcz32_4 := cellS60_4 HGz32
    have hcz32_5 := cellS60_5 HGz32
    have hcz32_6 := cellS60_6 HGz32
    have hcz32_7 := cellS60_7 HGz32
    have hcz32_8 := cellS60_8 HGz32
    have hcz32_9 := cellS60_9 HGz32
    have hcz32_10 := cellS60_10 HGz32
    have hfz32_0 := blk_frozen HGz32 0
    have hfz32_1 := blk_frozen HGz32 1
    have hfz32_2 := blk_frozen HGz32 2
    have hfz32_3 := blk_frozen HGz32 3
    have hfz32_4 := blk_frozen HGz32 4
    have hfz32_6 := blk_frozen HGz32 6
    have hfz32_8 := blk_frozen HGz32 8
    have hfz32_9 := blk_frozen HGz32 9
    have hfz32_10 := blk_frozen HGz32 10
    clear HGz32 hgz32
    go_wp2
    first | go_end0 | ((try simp only [Exit.inBlock, Exit.then]); refine bodyPost_ret (results_none rfl _ _ _) rfl ?_)
    exact ⟨by first | rfl | (simp [errW_none, errW_some] <;> rfl) | (simp [*, errW_none, errW_some] <;> rfl), by repeat (first | (with_reducible first | exact HI0.out | apply IsS60.alloc | apply IsS60.drewN | apply IsS60.drew | apply IsS60.set_0 | apply IsS60.set_1 | apply IsS60.set_2 | apply IsS60.set_3 | apply IsS60.set_4 | apply IsS60.set_6 | apply IsS60.set_8 | apply IsS60.set_9 | apply IsS60.set_10) | exact HI0.out), by repeat (first | (with_reducible first | exact HB.out | apply below_alloc | apply pw_below_drewN | apply below_drew1 | refine below_set ?_ (IsS60.ge HI0.out)) | exact HB.out), by repeat (first | (with_reducible first | exact HK.out | apply KeepBut.set_ | apply keep_drewN | apply keep_drew | apply keep_alloc) | exact HK.out)⟩
end Go.Proofs.YthhemephaabblaaGreatDoor.Q
namespace Go.Proofs.YthhemephaabblaaGreatDoor.Q
open Go.RowKit  Go.Proofs.YthhemephaabblaaGreatDoorW.PrintWords Go.Proofs.YthhemephaabblaaGreatDoorW.PrintLast Go.Proofs.YthhemephaabblaaGreatDoorW.PrintMore
attribute [local go_sem] max2_int min2_int max_two min_two max_three min_three max_four min_four
set_option linter.unusedVariables false
set_option linter.unusedSimpArgs false
def query_reader_signed.l0 : Nat → Int → ByteArray → List ByteArray → Int → Int → ByteArray → Int → Int → ByteArray → Int → Value → ByteArray → Value → ByteArray → Bool → Int → Option (ByteArray × Int × Int × ByteArray × Int × ByteArray × ByteArray × Bool × Int)
 | 0, _, _, _, _, _, _, _, _, _, _, _, _, _, _, _, _ => none
 | k + 1, x1, x4, x9, x10, x11, x1000, x1001, x1002, x1003, x1004, x1005, x1006, x1007, x1008, x1009, x1010 => if x11 < x10 then (if 0 ≤ x11 then (if x11 < (x9.length : Int) then (if 0 ≤ x1 then (if x1 ≤ (x1000.size : Int) then ((strings_HasPrefix.f (x1000.extract (x1 : Int).toNat x1000.size) (rdOf ByteArray.empty x9 x11)).bind fun t160 => (if t160 = true then (if ((rdOf ByteArray.empty x9 x11).size : Int) > (x4.size : Int) then (query_reader_signed.l0 k x1 (rdOf ByteArray.empty x9 x11) x9 x10 (wrap64 (x11 + 1)) x1000 x1001 x1002 x1003 x1004 x1005 x1006 x1007 x1008 x1009 x1010) else (query_reader_signed.l0 k x1 x4 x9 x10 (wrap64 (x11 + 1)) x1000 x1001 x1002 x1003 x1004 x1005 x1006 x1007 x1008 x1009 x1010)) else (query_reader_signed.l0 k x1 x4 x9 x10 (wrap64 (x11 + 1)) x1000 x1001 x1002 x1003 x1004 x1005 x1006 x1007 x1008 x1009 x1010))) else (none)) else (none)) else (none)) else (none)) else (if x4.toList = ([] : List UInt8) then (some (x1000, wrap64 (x1 + (x4.size : Int)), 1, x4, x1, x1006, x1008, x1009, x1010)) else (some (x1000, wrap64 (x1 + (x4.size : Int)), 5, x4, x1, x1006, x1008, x1009, x1010)))
def query_reader_signed.f (k : Nat) (s0_0 : ByteArray) (s0_1 : Int) (s0_2 : Int) (s0_3 : ByteArray) (s0_4 : Int) (s0_5 : Value) (s0_6 : ByteArray) (s0_7 : Value) (s0_8 : ByteArray) (s0_9 : Bool) (s0_10 : Int) (a1 : Int) : Option (ByteArray × Int × Int × ByteArray × Int × ByteArray × ByteArray × Bool × Int) := (query_operators.f).bind fun t150 => ((some (([(⟨#[44]⟩ : ByteArray), (⟨#[42]⟩ : ByteArray)] : List ByteArray) : List ByteArray)).bind fun y153 => (if t150.length + y153.length < 8796093022208 then ((some (t150 ++ y153 : List ByteArray)).bind fun y156 => (query_reader_signed.l0 k a1 (⟨#[]⟩ : ByteArray) y156 (y156.length : Int) 0 s0_0 s0_1 s0_2 s0_3 s0_4 s0_5 s0_6 s0_7 s0_8 s0_9 s0_10)) else (none)))
set_option maxHeartbeats 8000000 in
set_option maxRecDepth 100000 in
theorem query_reader_signed.calls (k : Nat) (g : Nat) (s0_0 : ByteArray) (s0_1 : Int) (s0_2 : Int) (s0_3 : ByteArray) (s0_4 : Int) (s0_5 : Value) (s0_6 : ByteArray) (s0_7 : Value) (s0_8 : ByteArray) (s0_9 : Bool) (s0_10 : Int) (a1 : Int) (r1 : ByteArray) (r2 : Int) (r3 : Int) (r4 : ByteArray) (r5 : Int) (r6 : ByteArray) (r7 : ByteArray) (r8 : Bool) (r9 : Int) (w0 w : World) (hI : IsS60 w0 w g s0_0 s0_1 s0_2 s0_3 s0_4 s0_5 s0_6 s0_7 s0_8 s0_9 s0_10) (hB : Below w0.heap.size w0 w) (h : query_reader_signed.f k s0_0 s0_1 s0_2 s0_3 s0_4 s0_5 s0_6 s0_7 s0_8 s0_9 s0_10 a1 = some (r1, r2, r3, r4, r5, r6, r7, r8, r9)) :
  Calls Tryz.prog 68 #[.pointer (some ⟨g, 0, none⟩), .int .i64 a1] w fun e w' => e = .returned (.tuple #[]) ∧ IsS60 w0 w' g r1 r2 r3 r4 r5 s0_5 r6 s0_7 r7 r8 r9 ∧ Below w0.heap.size w0 w' ∧ KeepBut w w' g none := by
 have hu58 := Tryz.underlying58
 have HI0 := Aside0.mk hI
 have HK := Aside0.mk (KeepBut.refl w g none)
 have HL := Aside0.mk hB.size
 clear hI
 have HW0 := Aside0.mk hB.size
 have HB := Aside0.mk hB
 clear hB
 have H : ((query_operators.f).bind fun t150 => ((some (([(⟨#[44]⟩ : ByteArray), (⟨#[42]⟩ : ByteArray)] : List ByteArray) : List ByteArray)).bind fun y153 => (if t150.length + y153.length < 8796093022208 then ((some (t150 ++ y153 : List ByteArray)).bind fun y156 => (query_reader_signed.l0 k a1 (⟨#[]⟩ : ByteArray) y156 (y156.length : Int) 0 s0_0 s0_1 s0_2 s0_3 s0_4 s0_5 s0_6 s0_7 s0_8 s0_9 s0_10)) else (none)))) = some (r1, r2, r3, r4, r5, r6, r7, r8, r9) := h
 clear h
 replace H := Option.bind_eq_some_iff.mp H
 obtain ⟨t150, A30, H⟩ := H
 replace H : ((some (([(⟨#[44]⟩ : ByteArray), (⟨#[42]⟩ : ByteArray)] : List ByteArray) : List ByteArray)).bind fun y153 => (if t150.length + y153.length < 8796093022208 then ((some (t150 ++ y153 : List ByteArray)).bind fun y156 => (query_reader_signed.l0 k a1 (⟨#[]⟩ : ByteArray) y156 (y156.length : Int) 0 s0_0 s0_1 s0_2 s0_3 s0_4 s0_5 s0_6 s0_7 s0_8 s0_9 s0_10)) else (none))) = some (r1, r2, r3, r4, r5, r6, r7, r8, r9) := H
 have A3 := Aside0.mk A30
 clear A30
 obtain ⟨y153, hy153⟩ : ∃ y_ : List ByteArray, y_ = (([(⟨#[44]⟩ : ByteArray), (⟨#[42]⟩ : ByteArray)] : List ByteArray)) := ⟨_, rfl⟩
 replace H : (if t150.length + y153.length < 8796093022208 then ((some (t150 ++ y153 : List ByteArray)).bind fun y156 => (query_reader_signed.l0 k a1 (⟨#[]⟩ : ByteArray) y156 (y156.length : Int) 0 s0_0 s0_1 s0_2 s0_3 s0_4 s0_5 s0_6 s0_7 s0_8 s0_9 s0_10)) else (none)) = some (r1, r2, r3, r4, r5, r6, r7, r8, r9) := by first | (rw [hy153]; with_reducible exact H) | (have H2_ := (Option.bind_some _ _).symm.trans H; rw [hy153]; with_reducible exact H2_) | (have H2_ := (Option.bind_some _ _).symm.trans H; with_reducible exact H2_) | with_reducible exact H | (rw [hy153]; exact H) | exact H
 have Ny153 := Aside0.mk hy153
 clear hy153
 by_cases c4 : t150.length + y153.length < 8796093022208
 ·
  rw [if_pos c4] at H
  have LMc4 := Aside0.mk c4
  clear c4
  obtain ⟨y156, hy156⟩ : ∃ y_ : List ByteArray, y_ = (t150 ++ y153) := ⟨_, rfl⟩
  replace H : (query_reader_signed.l0 k a1 (⟨#[]⟩ : ByteArray) y156 (y156.length : Int) 0 s0_0 s0_1 s0_2 s0_3 s0_4 s0_5 s0_6 s0_7 s0_8 s0_9 s0_10) = some (r1, r2, r3, r4, r5, r6, r7, r8, r9) := by first | (rw [hy156]; with_reducible exact H) | (have H2_ := (Option.bind_some _ _).symm.trans H; rw [hy156]; with_reducible exact H2_) | (have H2_ := (Option.bind_some _ _).symm.trans H; with_reducible exact H2_) | with_reducible exact H | (rw [hy156]; exact H) | exact H
  have Ny156 := Aside0.mk hy156
  clear hy156
  have H' := Aside0.mk H
  clear H
  go_enter Tryz.func68, Tryz.ntmps68
  go_wp2_with (first | ((with_reducible refine gate_callee (f := 30) rfl ?_); refine goesL_ (some 7) rfl rfl Tryz.func30 (by kernel_rfl) rfl #[] rfl (by (try simp only [List.map_toArray, List.map_cons, List.map_nil]); first | done | rfl | (simp only [List.length_drop, List.length_take]; rfl)) ?_; (with_reducible refine (query_operators.calls  t150 _ A3.out).mono ?_); rintro e w5 ⟨v151, rfl, ho0, hb⟩; refine ⟨_, rfl, ?_⟩; have n0_ := Aside0.mk (Kd.R_lower ho0 (keep_size (w := w) (g := g) (row := none) (by repeat (first | (with_reducible first | exact HK.out | apply KeepBut.set_ | apply keep_drewN | apply keep_drew | apply keep_alloc) | exact HK.out)))); have n1_ := Aside0.mk (IsS60.below (by repeat (first | (with_reducible first | exact HI0.out | apply IsS60.alloc | apply IsS60.drewN | apply IsS60.drew | apply IsS60.set_0 | apply IsS60.set_1 | apply IsS60.set_2 | apply IsS60.set_3 | apply IsS60.set_4 | apply IsS60.set_6 | apply IsS60.set_8 | apply IsS60.set_9 | apply IsS60.set_10) | exact HI0.out)) hb); have n2_ := Aside0.mk (KeepBut.trans (by repeat (first | (with_reducible first | exact HK.out | apply KeepBut.set_ | apply keep_drewN | apply keep_drew | apply keep_alloc) | exact HK.out)) (KeepBut.of_below hb g none) (.inl rfl)); have n3_ := Aside0.mk (below_step (by repeat (first | (with_reducible first | exact HB.out | apply below_alloc | apply pw_below_drewN | apply below_drew1 | refine below_set ?_ (IsS60.ge HI0.out)) | exact HB.out)) hb); clear HI0; clear HK; clear HB; have HO152 := n0_; have HI0 := n1_; have HK := n2_; have HB := n3_; clear n0_ n1_ n2_ n3_; (try clear hb); (try clear hb2); (try clear hk); (try clear hi); (try clear ho0)) | ((with_reducible refine gate_dst (N := 8) rfl ?_); (try (refine gate_guard (by rfl) ?_; dsimp only)); refine Kd.R_lit Kd.string _ 9 ?hg (N := 8) ?hd (xs := ([(⟨#[44]⟩ : ByteArray), (⟨#[42]⟩ : ByteArray)] : List ByteArray)) (inner := [.string (⟨#[44]⟩ : ByteArray), .string (⟨#[42]⟩ : ByteArray)]) (ok := fun _ => True) (okp := fun _ => True) ?hr ?hp (fun _ hk => hk) trivial (Below.refl _ _) (Nat.le_refl _) (by simp) ?_; (case hd => rfl); (case hg => rfl); (case hr => first | (go_simp; done) | (go_simp; rfl)); (case hp => exact (Reps.one (show Kd.M Kd.string _ _ _ (⟨#[44]⟩ : ByteArray) [.string (⟨#[44]⟩ : ByteArray)] from rfl) (Reps.one (show Kd.M Kd.string _ _ _ (⟨#[42]⟩ : ByteArray) [.string (⟨#[42]⟩ : ByteArray)] from rfl) (Reps.none _ _)))); intro v154 w6 ho7 hb hg_ hnew_; clear hg_ hnew_; (first | rw [← Ny153.out] at ho7 | (simp only [Int.reduceToNat] at ho7; rw [← Ny153.out] at ho7)); have n0_ := Aside0.mk (Kd.R_elder' (by (with_reducible repeat (first | apply Kd.R_alloc | apply Kd.R_drewN | apply Kd.R_drew)); exact HO152.out) (Kd.R_base ho7) hb); have n1_ := Aside0.mk (Kd.R_lower (Kd.R_new' ho7 (Kd.R_lt (by (with_reducible repeat (first | apply Kd.R_alloc | apply Kd.R_drewN | apply Kd.R_drew)); exact HO152.out))) (keep_size (w := w) (g := g) (row := none) (by repeat (first | (with_reducible first | exact HK.out | apply KeepBut.set_ | apply keep_drewN | apply keep_drew | apply keep_alloc) | exact HK.out)))); have n2_ := Aside0.mk (IsS60.below (by repeat (first | (with_reducible first | exact HI0.out | apply IsS60.alloc | apply IsS60.drewN | apply IsS60.drew | apply IsS60.set_0 | apply IsS60.set_1 | apply IsS60.set_2 | apply IsS60.set_3 | apply IsS60.set_4 | apply IsS60.set_6 | apply IsS60.set_8 | apply IsS60.set_9 | apply IsS60.set_10) | exact HI0.out)) hb); have n3_ := Aside0.mk (KeepBut.trans (by repeat (first | (with_reducible first | exact HK.out | apply KeepBut.set_ | apply keep_drewN | apply keep_drew | apply keep_alloc) | exact HK.out)) (KeepBut.of_below hb g none) (.inl rfl)); have n4_ := Aside0.mk (below_step (by repeat (first | (with_reducible first | exact HB.out | apply below_alloc | apply pw_below_drewN | apply below_drew1 | refine below_set ?_ (IsS60.ge HI0.out)) | exact HB.out)) hb); clear HO152; clear HI0; clear HK; clear HB; have HO152 := n0_; have HO155 := n1_; have HI0 := n2_; have HK := n3_; have HB := n4_; clear n0_ n1_ n2_ n3_ n4_; clear hb ho7; obtain ⟨Ao9, co9, eo9⟩ := Kd.R_slice HO155.out; subst eo9) | ((with_reducible refine gate_builtin (b := .append) (xs := #[.tmp 7, .tmp 8]) rfl ?_); (try (refine gate_guard (by rfl) ?_; dsimp only)); at_builtin; refine Kd.R_append_rows Kd.string w.heap.size rfl (.tmp 7) (.tmp 8) 22 9 (.string ⟨#[]⟩) 16 rfl Tryz.underlying22 info9 rfl (by decide) (by omega) v151 t150 y153 _ _ _ (fun k_ => some k_ ≠ (.slice Ao9 y153.length co9 : Value).ownBlock) (fun _ => False) rfl rfl ?aO ?aR (fun _ _ h => h) (fun _ h => h.elim) ?aF (Below.refl _ _) ?aS ?aL ?_; (case aR => repeat (first | exact (Kd.R_reads' HO155.out).2.2 | (with_reducible refine Kd.C_alloc ?_ _) | (with_reducible refine Kd.C_drewN ?_ _) | (with_reducible refine Kd.C_drew ?_))); (case aF => exact (fun k_ hk => Kd.fresh' (Kd.R_lt (by (with_reducible repeat (first | apply Kd.R_alloc | apply Kd.R_drewN | apply Kd.R_drew)); exact HO155.out)) k_ hk)); (case aO => exact (by (with_reducible repeat (first | apply Kd.R_alloc | apply Kd.R_drewN | apply Kd.R_drew)); exact Kd.R_mono HO152.out (fun _ hk => hk.2))); (case aS => exact (keep_size (w := w) (g := g) (row := none) (by repeat (first | (with_reducible first | exact HK.out | apply KeepBut.set_ | apply keep_drewN | apply keep_drew | apply keep_alloc) | exact HK.out)))); (case aL => have := LMc4.out; omega); intro v157 w8 ho hb hg hat; rw [← Ny156.out] at ho; have n0_ := Aside0.mk (IsS60.grown (by repeat (first | (with_reducible first | exact HI0.out | apply IsS60.alloc | apply IsS60.drewN | apply IsS60.drew | apply IsS60.set_0 | apply IsS60.set_1 | apply IsS60.set_2 | apply IsS60.set_3 | apply IsS60.set_4 | apply IsS60.set_6 | apply IsS60.set_8 | apply IsS60.set_9 | apply IsS60.set_10) | exact HI0.out)) hg (IsS60.own_ne HI0.out HO152.out (by decide))); have n1_ := Aside0.mk (Kd.R_after (ok := (fun _ => True)) (by (with_reducible repeat (first | apply Kd.R_alloc | apply Kd.R_drewN | apply Kd.R_drew)); exact HO155.out) hg hat); have n2_ := Aside0.mk (below_weaken (by repeat (first | (with_reducible first | exact HB.out | apply below_alloc | apply pw_below_drewN | apply below_drew1 | refine below_set ?_ (IsS60.ge HI0.out)) | exact HB.out)) HL.out hb); have n3_ := Aside0.mk (KeepBut.trans (by repeat (first | (with_reducible first | exact HK.out | apply KeepBut.set_ | apply keep_drewN | apply keep_drew | apply keep_alloc) | exact HK.out)) (KeepBut.of_grown hg g) (Kd.R_base2 HO152.out)); have n4_ := Aside0.mk (ho); clear HI0; clear HO155; clear HB; clear HK; clear HO152; have HI0 := n0_; have HO155 := n1_; have HB := n2_; have HK := n3_; have HO158 := n4_; clear n0_ n1_ n2_ n3_ n4_; clear ho hb hg hat; obtain ⟨Ao10, co10, eo10⟩ := Kd.R_slice HO158.out; subst eo10))
  go_loopg [4, 11] k (fun kq v4 v11 w' => ∃ (x4_1 : ByteArray) (x11_1 : Int), v4 = .string x4_1 ∧ v11 = .int .i64 x11_1 ∧ Aside0 (query_reader_signed.l0 kq a1 x4_1 y156 (y156.length : Int) x11_1 s0_0 s0_1 s0_2 s0_3 s0_4 s0_5 s0_6 s0_7 s0_8 s0_9 s0_10 = some (r1, r2, r3, r4, r5, r6, r7, r8, r9)) ∧ Aside0 (kq ≤ k) ∧ Aside0 (Kd.R Kd.string 9 w' w.heap.size (fun _ => True) (.slice Ao10 y156.length co10) y156) ∧ Aside0 (IsS60 w0 w' g s0_0 s0_1 s0_2 s0_3 s0_4 s0_5 s0_6 s0_7 s0_8 s0_9 s0_10) ∧ Aside0 (KeepBut w w' g none) ∧ Aside0 (Below w0.heap.size w0 w'))
  case atStart => exact ⟨((⟨#[]⟩ : ByteArray)), (0), (by first | rfl | (simp; done) | (simp [*]; done)), (by first | rfl | (simp; done) | (simp [*]; done)), H', ⟨Nat.le_refl _⟩, ⟨by (with_reducible repeat (first | apply Kd.R_alloc | apply Kd.R_drewN | apply Kd.R_drew)); exact Kd.R_mono HO158.out (fun _ hk => trivial)⟩, ⟨by repeat (first | (with_reducible first | exact HI0.out | apply IsS60.alloc | apply IsS60.drewN | apply IsS60.drew | apply IsS60.set_0 | apply IsS60.set_1 | apply IsS60.set_2 | apply IsS60.set_3 | apply IsS60.set_4 | apply IsS60.set_6 | apply IsS60.set_8 | apply IsS60.set_9 | apply IsS60.set_10) | exact HI0.out)⟩, ⟨by repeat (first | (with_reducible first | exact HK.out | apply KeepBut.set_ | apply keep_drewN | apply keep_drew | apply keep_alloc) | exact HK.out)⟩, ⟨by repeat (first | (with_reducible first | exact HB.out | apply below_alloc | apply pw_below_drewN | apply below_drew1 | refine below_set ?_ (IsS60.ge HI0.out)) | exact HB.out)⟩⟩
  case round =>
   clear H'
   try clear c4
   obtain ⟨x4_1, x11_1, rfl, rfl, HA, HK1, HO_9, HI0, HK, HB⟩ := hrel
   cases gk with
   | zero => exact absurd HA.out (by simp [query_reader_signed.l0])
   | succ k1 =>
    have H := HA.out
    clear HA
    simp only [query_reader_signed.l0] at H
    by_cases c11 : x11_1 < (y156.length : Int)
    ·
     rw [if_pos c11] at H
     have c11b0 : decide (x11_1 < (y156.length : Int)) = true := decide_eq_true c11
     clear c11
     by_cases c12 : 0 ≤ x11_1
     ·
      rw [if_pos c12] at H
      have c12b0 : decide (0 ≤ x11_1) = true := decide_eq_true c12
      clear c12
      by_cases c13 : x11_1 < (y156.length : Int)
      ·
       rw [if_pos c13] at H
       have c13b0 : decide (x11_1 < (y156.length : Int)) = true := decide_eq_true c13
       clear c13
       by_cases c14 : 0 ≤ a1
       ·
        rw [if_pos c14] at H
        have c14b0 := eq_true c14
        have c14b1 : decide (0 ≤ a1) = true := decide_eq_true c14
        clear c14
        by_cases c15 : a1 ≤ (s0_0.size : Int)
        ·
         rw [if_pos c15] at H
         have c15b0 := eq_true c15
         have c15b1 : decide (a1 ≤ (s0_0.size : Int)) = true := decide_eq_true c15
         clear c15
         replace H := Option.bind_eq_some_iff.mp H
         obtain ⟨t160, A160, H⟩ := H
         replace H : (if t160 = true then (if ((rdOf ByteArray.empty y156 x11_1).size : Int) > (x4_1.size : Int) then (query_reader_signed.l0 k1 a1 (rdOf ByteArray.empty y156 x11_1) y156 (y156.length : Int) (wrap64 (x11_1 + 1)) s0_0 s0_1 s0_2 s0_3 s0_4 s0_5 s0_6 s0_7 s0_8 s0_9 s0_10) else (query_reader_signed.l0 k1 a1 x4_1 y156 (y156.length : Int) (wrap64 (x11_1 + 1)) s0_0 s0_1 s0_2 s0_3 s0_4 s0_5 s0_6 s0_7 s0_8 s0_9 s0_10)) else (query_reader_signed.l0 k1 a1 x4_1 y156 (y156.length : Int) (wrap64 (x11_1 + 1)) s0_0 s0_1 s0_2 s0_3 s0_4 s0_5 s0_6 s0_7 s0_8 s0_9 s0_10)) = some (r1, r2, r3, r4, r5, r6, r7, r8, r9) := H
         have A16 := Aside0.mk A160
         clear A160
         by_cases c17 : t160 = true
         ·
          subst c17
          have H1 : (if ((rdOf ByteArray.empty y156 x11_1).size : Int) > (x4_1.size : Int) then (query_reader_signed.l0 k1 a1 (rdOf ByteArray.empty y156 x11_1) y156 (y156.length : Int) (wrap64 (x11_1 + 1)) s0_0 s0_1 s0_2 s0_3 s0_4 s0_5 s0_6 s0_7 s0_8 s0_9 s0_10) else (query_reader_signed.l0 k1 a1 x4_1 y156 (y156.length : Int) (wrap64 (x11_1 + 1)) s0_0 s0_1 s0_2 s0_3 s0_4 s0_5 s0_6 s0_7 s0_8 s0_9 s0_10)) = some (r1, r2, r3, r4, r5, r6, r7, r8, r9) := by rw [if_pos rfl] at H; exact H
          clear H
          have H := H1
          clear H1
          by_cases c18 : ((rdOf ByteArray.empty y156 x11_1).size : Int) > (x4_1.size : Int)
          ·
           rw [if_pos c18] at H
           have c18b0 : decide ((x4_1.size : Int) < ((rdOf ByteArray.empty y156 x11_1).size : Int)) = true := decide_eq_true c18
           have c18b1 : decide (x4_1.size < (rdOf ByteArray.empty y156 x11_1).size) = true := decide_eq_true (Int.ofNat_lt.mp c18)
           clear c18
           have H' := Aside0.mk H
           clear H
           have p159 : 0 ≤ (x11_1 : Int) := of_decide_eq_true (by first | (with_reducible assumption) | assumption)
           have q159 : x11_1 < (y156.length : Int) := of_decide_eq_true (by first | (with_reducible assumption) | assumption)
           obtain ⟨ad159, e159, hx159_0⟩ := Kd.at_string (Kd.R_reads' HO_9.out).2.2 x11_1 p159 q159
           cases e159
           replace p159 := eq_true p159
           replace q159 := eq_true q159
           obtain ⟨HGz19, hgz19⟩ := HI0.out
           have hcz19_0 := cellS60_0 HGz19
           have hcz19_1 := cellS60_1 HGz19
           have hcz19_2 := cellS60_2 HGz19
           have hcz19_3 := cellS60_3 HGz19
           have hcz19_4 := cellS60_4 HGz19
           have hcz19_5 := cellS60_5 HGz19
           have hcz19_6 := cellS60_6 HGz19
           have hcz19_7 := cellS60_7 HGz19
           have hcz19_8 := cellS60_8 HGz19
           have hcz19_9 := cellS60_9 HGz19
           have hcz19_10 := cellS60_10 HGz19
           have hfz19_0 := blk_frozen HGz19 0
           have hfz19_1 := blk_frozen HGz19 1
           have hfz19_2 := blk_frozen HGz19 2
           have hfz19_3 := blk_frozen HGz19 3
           have hfz19_4 := blk_frozen HGz19 4
           have hfz19_6 := blk_frozen HGz19 6
           have hfz19_8 := blk_frozen HGz19 8
           have hfz19_9 := blk_frozen HGz19 9
           have hfz19_10 := blk_frozen HGz19 10
           clear HGz19 hgz19
           go_wp2_with (first | ((with_reducible refine gate_callee (f := 82) rfl ?_); refine goesL_ (some 22) rfl rfl Tryz.func82 (by kernel_rfl) rfl #[.string (s0_0.extract (a1 : Int).toNat s0_0.size), .string (rdOf ByteArray.empty y156 x11_1)] rfl (by (try simp only [List.map_toArray, List.map_cons, List.map_nil]); first | done | rfl | (simp only [List.length_drop, List.length_take]; rfl)) ?_; (with_reducible refine (strings_HasPrefix.calls (s0_0.extract (a1 : Int).toNat s0_0.size) (rdOf ByteArray.empty y156 x11_1) true _ A16.out).mono ?_); rintro e w' ⟨rfl, ⟨nd, rfl⟩⟩; refine ⟨_, rfl, ?_⟩))
           go_roundg k1
           case measure => have := HK1.out; omega
           case rel => exact ⟨(rdOf ByteArray.empty y156 x11_1), (wrap64 (x11_1 + 1)), (by first | rfl | (simp; done) | (simp [*]; done)), (by first | rfl | (simp; done) | (simp [*]; done)), H', ⟨by have := HK1.out; omega⟩, ⟨by (with_reducible repeat (first | apply Kd.R_alloc | apply Kd.R_drewN | apply Kd.R_drew)); exact HO_9.out⟩, ⟨by repeat (first | (with_reducible first | exact HI0.out | apply IsS60.alloc | apply IsS60.drewN | apply IsS60.drew | apply IsS60.set_0 | apply IsS60.set_1 | apply IsS60.set_2 | apply IsS60.set_3 | apply IsS60.set_4 | apply IsS60.set_6 | apply IsS60.set_8 | apply IsS60.set_9 | apply IsS60.set_10) | exact HI0.out)⟩, ⟨by repeat (first | (with_reducible first | exact HK.out | apply KeepBut.set_ | apply keep_drewN | apply keep_drew | apply keep_alloc) | exact HK.out)⟩, ⟨by repeat (first | (with_reducible first | exact HB.out | apply below_alloc | apply pw_below_drewN | apply below_drew1 | refine below_set ?_ (IsS60.ge HI0.out)) | exact HB.out)⟩⟩
          ·
           rw [if_neg c18] at H
           have c18b0 : decide ((x4_1.size : Int) < ((rdOf ByteArray.empty y156 x11_1).size : Int)) = false := decide_eq_false c18
           have c18b1 : decide (x4_1.size < (rdOf ByteArray.empty y156 x11_1).size) = false := decide_eq_false (fun h => c18 (Int.ofNat_lt.mpr h))
           clear c18
           have H' := Aside0.mk H
           clear H
           have p159 : 0 ≤ (x11_1 : Int) := of_decide_eq_true (by first | (with_reducible assumption) | assumption)
           have q159 : x11_1 < (y156.length : Int) := of_decide_eq_true (by first | (with_reducible assumption) | assumption)
           obtain ⟨ad159, e159, hx159_0⟩ := Kd.at_string (Kd.R_reads' HO_9.out).2.2 x11_1 p159 q159
           cases e159
           replace p159 := eq_true p159
           replace q159 := eq_true q159
           obtain ⟨HGz20, hgz20⟩ := HI0.out
           have hcz20_0 := cellS60_0 HGz20
           have hcz20_1 := cellS60_1 HGz20
           have hcz20_2 := cellS60_2 HGz20
           have hcz20_3 := cellS60_3 HGz20
           have hcz20_4 := cellS60_4 HGz20
           have hcz20_5 := cellS60_5 HGz20
           have hcz20_6 := cellS60_6 HGz20
           have hcz20_7 := cellS60_7 HGz20
           have hcz20_8 := cellS60_8 HGz20
           have hcz20_9 := cellS60_9 HGz20
           have hcz20_10 := cellS60_10 HGz20
           have hfz20_0 := blk_frozen HGz20 0
           have hfz20_1 := blk_frozen HGz20 1
           have hfz20_2 := blk_frozen HGz20 2
           have hfz20_3 := blk_frozen HGz20 3
           have hfz20_4 := blk_frozen HGz20 4
           have hfz20_6 := blk_frozen HGz20 6
           have hfz20_8 := blk_frozen HGz20 8
           have hfz20_9 := blk_frozen HGz20 9
           have hfz20_10 := blk_frozen HGz20 10
           clear HGz20 hgz20
           go_wp2_with (first | ((with_reducible refine gate_callee (f := 82) rfl ?_); refine goesL_ (some 22) rfl rfl Tryz.func82 (by kernel_rfl) rfl #[.string (s0_0.extract (a1 : Int).toNat s0_0.size), .string (rdOf ByteArray.empty y156 x11_1)] rfl (by (try simp only [List.map_toArray, List.map_cons, List.map_nil]); first | done | rfl | (simp only [List.length_drop, List.length_take]; rfl)) ?_; (with_reducible refine (strings_HasPrefix.calls (s0_0.extract (a1 : Int).toNat s0_0.size) (rdOf ByteArray.empty y156 x11_1) true _ A16.out).mono ?_); rintro e w' ⟨rfl, ⟨nd, rfl⟩⟩; refine ⟨_, rfl, ?_⟩))
           go_roundg k1
           case measure => have := HK1.out; omega
           case rel => exact ⟨(x4_1), (wrap64 (x11_1 + 1)), (by first | rfl | (simp; done) | (simp [*]; done)), (by first | rfl | (simp; done) | (simp [*]; done)), H', ⟨by have := HK1.out; omega⟩, ⟨by (with_reducible repeat (first | apply Kd.R_alloc | apply Kd.R_drewN | apply Kd.R_drew)); exact HO_9.out⟩, ⟨by repeat (first | (with_reducible first | exact HI0.out | apply IsS60.alloc | apply IsS60.drewN | apply IsS60.drew | apply IsS60.set_0 | apply IsS60.set_1 | apply IsS60.set_2 | apply IsS60.set_3 | apply IsS60.set_4 | apply IsS60.set_6 | apply IsS60.set_8 | apply IsS60.set_9 | apply IsS60.set_10) | exact HI0.out)⟩, ⟨by repeat (first | (with_reducible first | exact HK.out | apply KeepBut.set_ | apply keep_drewN | apply keep_drew | apply keep_alloc) | exact HK.out)⟩, ⟨by repeat (first | (with_reducible first | exact HB.out | apply below_alloc | apply pw_below_drewN | apply below_drew1 | refine below_set ?_ (IsS60.ge HI0.out)) | exact HB.out)⟩⟩
         ·
          replace c17 := Bool.eq_false_iff.mpr c17
          subst c17
          have H1 : (query_reader_signed.l0 k1 a1 x4_1 y156 (y156.length : Int) (wrap64 (x11_1 + 1)) s0_0 s0_1 s0_2 s0_3 s0_4 s0_5 s0_6 s0_7 s0_8 s0_9 s0_10) = some (r1, r2, r3, r4, r5, r6, r7, r8, r9) := by rw [if_neg (show ¬ (false = true) by decide)] at H; exact H
          clear H
          have H := H1
          clear H1
          have H' := Aside0.mk H
          clear H
          have p159 : 0 ≤ (x11_1 : Int) := of_decide_eq_true (by first | (with_reducible assumption) | assumption)
          have q159 : x11_1 < (y156.length : Int) := of_decide_eq_true (by first | (with_reducible assumption) | assumption)
          obtain ⟨ad159, e159, hx159_0⟩ := Kd.at_string (Kd.R_reads' HO_9.out).2.2 x11_1 p159 q159
          cases e159
          replace p159 := eq_true p159
          replace q159 := eq_true q159
          obtain ⟨HGz21, hgz21⟩ := HI0.out
          have hcz21_0 := cellS60_0 HGz21
          have hcz21_1 := cellS60_1 HGz21
          have hcz21_2 := cellS60_2 HGz21
          have hcz21_3 := cellS60_3 HGz21
          have hcz21_4 := cellS60_4 HGz21
          have hcz21_5 := cellS60_5 HGz21
          have hcz21_6 := cellS60_6 HGz21
          have hcz21_7 := cellS60_7 HGz21
          have hcz21_8 := cellS60_8 HGz21
          have hcz21_9 := cellS60_9 HGz21
          have hcz21_10 := cellS60_10 HGz21
          have hfz21_0 := blk_frozen HGz21 0
          have hfz21_1 := blk_frozen HGz21 1
          have hfz21_2 := blk_frozen HGz21 2
          have hfz21_3 := blk_frozen HGz21 3
          have hfz21_4 := blk_frozen HGz21 4
          have hfz21_6 := blk_frozen HGz21 6
          have hfz21_8 := blk_frozen HGz21 8
          have hfz21_9 := blk_frozen HGz21 9
          have hfz21_10 := blk_frozen HGz21 10
          clear HGz21 hgz21
          go_wp2_with (first | ((with_reducible refine gate_callee (f := 82) rfl ?_); refine goesL_ (some 22) rfl rfl Tryz.func82 (by kernel_rfl) rfl #[.string (s0_0.extract (a1 : Int).toNat s0_0.size), .string (rdOf ByteArray.empty y156 x11_1)] rfl (by (try simp only [List.map_toArray, List.map_cons, List.map_nil]); first | done | rfl | (simp only [List.length_drop, List.length_take]; rfl)) ?_; (with_reducible refine (strings_HasPrefix.calls (s0_0.extract (a1 : Int).toNat s0_0.size) (rdOf ByteArray.empty y156 x11_1) false _ A16.out).mono ?_); rintro e w' ⟨rfl, ⟨nd, rfl⟩⟩; refine ⟨_, rfl, ?_⟩))
          go_roundg k1
          case measure => have := HK1.out; omega
          case rel => exact ⟨(x4_1), (wrap64 (x11_1 + 1)), (by first | rfl | (simp; done) | (simp [*]; done)), (by first | rfl | (simp; done) | (simp [*]; done)), H', ⟨by have := HK1.out; omega⟩, ⟨by (with_reducible repeat (first | apply Kd.R_alloc | apply Kd.R_drewN | apply Kd.R_drew)); exact HO_9.out⟩, ⟨by repeat (first | (with_reducible first | exact HI0.out | apply IsS60.alloc | apply IsS60.drewN | apply IsS60.drew | apply IsS60.set_0 | apply IsS60.set_1 | apply IsS60.set_2 | apply IsS60.set_3 | apply IsS60.set_4 | apply IsS60.set_6 | apply IsS60.set_8 | apply IsS60.set_9 | apply IsS60.set_10) | exact HI0.out)⟩, ⟨by repeat (first | (with_reducible first | exact HK.out | apply KeepBut.set_ | apply keep_drewN | apply keep_drew | apply keep_alloc) | exact HK.out)⟩, ⟨by repeat (first | (with_reducible first | exact HB.out | apply below_alloc | apply pw_below_drewN | apply below_drew1 | refine below_set ?_ (IsS60.ge HI0.out)) | exact HB.out)⟩⟩
        ·
         rw [if_neg c15] at H
         exact absurd H (by simp)
       ·
        rw [if_neg c14] at H
        exact absurd H (by simp)
      ·
       rw [if_neg c13] at H
       exact absurd H (by simp)
     ·
      rw [if_neg c12] at H
      exact absurd H (by simp)
    ·
     rw [if_neg c11] at H
     have c11b0 : decide (x11_1 < (y156.length : Int)) = false := decide_eq_false c11
     clear c11
     by_cases c22 : x4_1.toList = ([] : List UInt8)
     ·
      rw [if_pos c22] at H
      have c22b0 : (x4_1.toList == ([] : List UInt8)) = true := beq_iff_eq.mpr c22
      have c22b1 : (x4_1.toList != ([] : List UInt8)) = false := bne_eq_false_iff_eq.mpr c22
      clear c22
      simp only [Option.some.injEq, Prod.mk.injEq] at H
      obtain ⟨rfl, rfl, rfl, rfl, rfl, rfl, rfl, rfl, rfl⟩ := H
      obtain ⟨HGz23, hgz23⟩ := HI0.out
      have hcz23_0 := cellS60_0 HGz23
      have hcz23_1 := cellS60_1 HGz23
      have hcz23_2 := cellS60_2 HGz23
      have hcz23_3 := cellS60_3 HGz23
      have hcz23_4 := cellS60_4 HGz23
      have hcz23_5 := cellS60_5 HGz23
      have hcz23_6 := cellS60_6 HGz23
      have hcz23_7 := cellS60_7 HGz23
      have hcz23_8 := cellS60_8 HGz23
      have hcz23_9 := cellS60_9 HGz23
      have hcz23_10 := cellS60_10 HGz23
      have hfz23_0 := blk_frozen HGz23 0
      have hfz23_1 := blk_frozen HGz23 1
      have hfz23_2 := blk_frozen HGz23 2
      have hfz23_3 := blk_frozen HGz23 3
      have hfz23_4 := blk_frozen HGz23 4
      have hfz23_6 := blk_frozen HGz23 6
      have hfz23_8 := blk_frozen HGz23 8
      have hfz23_9 := blk_frozen HGz23 9
      have hfz23_10 := blk_frozen HGz23 10
      clear HGz23 hgz23
      go_wp2
      first | go_end0 | ((try simp only [Exit.inBlock, Exit.then]); refine bodyPost_ret (results_none rfl _ _ _) rfl ?_)
      exact ⟨by first | rfl | (simp [errW_none, errW_some] <;> rfl) | (simp [*, errW_none, errW_some] <;> rfl), by repeat (first | (with_reducible first | exact HI0.out | apply IsS60.alloc | apply IsS60.drewN | apply IsS60.drew | apply IsS60.set_0 | apply IsS60.set_1 | apply IsS60.set_2 | apply IsS60.set_3 | apply IsS60.set_4 | apply IsS60.set_6 | apply IsS60.set_8 | apply IsS60.set_9 | apply IsS60.set_10) | exact HI0.out), by repeat (first | (with_reducible first | exact HB.out | apply below_alloc | apply pw_below_drewN | apply below_drew1 | refine below_set ?_ (IsS60.ge HI0.out)) | exact HB.out), by repeat (first | (with_reducible first | exact HK.out | apply KeepBut.set_ | apply keep_drewN | apply keep_drew | apply keep_alloc) | exact HK.out)⟩
     ·
      rw [if_neg c22] at H
      have c22b0 : (x4_1.toList == ([] : List UInt8)) = false := beq_eq_false_iff_ne.mpr c22
      have c22b1 : (x4_1.toList != ([] : List UInt8)) = true := bne_iff_ne.mpr c22
      simp only [Option.some.injEq, Prod.mk.injEq] at H
      obtain ⟨rfl, rfl, rfl, rfl, rfl, rfl, rfl, rfl, rfl⟩ := H
      obtain ⟨HGz24, hgz24⟩ := HI0.out
      have hcz24_0 := cellS60_0 HGz24
      have hcz24_1 := cellS60_1 HGz24
      have hcz24_2 := cellS60_2 HGz24
      have hcz24_3 := cellS60_3 HGz24
      have hcz24_4 := cellS60_4 HGz24
      have hcz24_5 := cellS60_5 HGz24
      have hcz24_6 := cellS60_6 HGz24
      have hcz24_7 := cellS60_7 HGz24
      have hcz24_8 := cellS60_8 HGz24
      have hcz24_9 := cellS60_9 HGz24
      have hcz24_10 := cellS60_10 HGz24
      have hfz24_0 := blk_frozen HGz24 0
      have hfz24_1 := blk_frozen HGz24 1
      have hfz24_2 := blk_frozen HGz24 2
      have hfz24_3 := blk_frozen HGz24 3
      have hfz24_4 := blk_frozen HGz24 4
      have hfz24_6 := blk_frozen HGz24 6
      have hfz24_8 := blk_frozen HGz24 8
      have hfz24_9 := blk_frozen HGz24 9
      have hfz24_10 := blk_frozen HGz24 10
      clear HGz24 hgz24
      go_wp2
      first | go_end0 | ((try simp only [Exit.inBlock, Exit.then]); refine bodyPost_ret (results_none rfl _ _ _) rfl ?_)
      exact ⟨by first | rfl | (simp [errW_none, errW_some] <;> rfl) | (simp [*, errW_none, errW_some] <;> rfl), by repeat (first | (with_reducible first | exact HI0.out | apply IsS60.alloc | apply IsS60.drewN | apply IsS60.drew | apply IsS60.set_0 | apply IsS60.set_1 | apply IsS60.set_2 | apply IsS60.set_3 | apply IsS60.set_4 | apply IsS60.set_6 | apply IsS60.set_8 | apply IsS60.set_9 | apply IsS60.set_10) | exact HI0.out), by repeat (first | (with_reducible first | exact HB.out | apply below_alloc | apply pw_below_drewN | apply below_drew1 | refine below_set ?_ (IsS60.ge HI0.out)) | exact HB.out), by repeat (first | (with_reducible first | exact HK.out | apply KeepBut.set_ | apply keep_drewN | apply keep_drew | apply keep_alloc) | exact HK.out)⟩
 ·
  rw [if_neg c4] at H
  exact absurd H (by simp)
def query_reader_is.f (s0_0 : ByteArray) (s0_1 : Int) (s0_2 : Int) (s0_3 : ByteArray) (s0_4 : Int) (s0_5 : Value) (s0_6 : ByteArray) (s0_7 : Value) (s0_8 : ByteArray) (s0_9 : Bool) (s0_10 : Int) (a1 : Int) (a2 : ByteArray) : Option (Bool × ByteArray × Int × Int × ByteArray × Int × ByteArray × ByteArray × Bool × Int) := if s0_2 = a1 then (some ((s0_3.toList == a2.toList), s0_0, s0_1, s0_2, s0_3, s0_4, s0_6, s0_8, s0_9, s0_10)) else (some (false, s0_0, s0_1, s0_2, s0_3, s0_4, s0_6, s0_8, s0_9, s0_10))
set_option maxHeartbeats 8000000 in
set_option maxRecDepth 100000 in
theorem query_reader_is.calls (g : Nat) (s0_0 : ByteArray) (s0_1 : Int) (s0_2 : Int) (s0_3 : ByteArray) (s0_4 : Int) (s0_5 : Value) (s0_6 : ByteArray) (s0_7 : Value) (s0_8 : ByteArray) (s0_9 : Bool) (s0_10 : Int) (a1 : Int) (a2 : ByteArray) (r1 : Bool) (r2 : ByteArray) (r3 : Int) (r4 : Int) (r5 : ByteArray) (r6 : Int) (r7 : ByteArray) (r8 : ByteArray) (r9 : Bool) (r10 : Int) (w0 w : World) (hI : IsS60 w0 w g s0_0 s0_1 s0_2 s0_3 s0_4 s0_5 s0_6 s0_7 s0_8 s0_9 s0_10) (hB : Below w0.heap.size w0 w) (h : query_reader_is.f s0_0 s0_1 s0_2 s0_3 s0_4 s0_5 s0_6 s0_7 s0_8 s0_9 s0_10 a1 a2 = some (r1, r2, r3, r4, r5, r6, r7, r8, r9, r10)) :
  Calls Tryz.prog 69 #[.pointer (some ⟨g, 0, none⟩), .int .i64 a1, .string a2] w fun e w' => e = .returned (.bool r1) ∧ IsS60 w0 w' g r2 r3 r4 r5 r6 s0_5 r7 s0_7 r8 r9 r10 ∧ Below w0.heap.size w0 w' ∧ KeepBut w w' g none := by
 have HI0 := Aside0.mk hI
 have HK := Aside0.mk (KeepBut.refl w g none)
 have HL := Aside0.mk hB.size
 clear hI
 have HW0 := Aside0.mk hB.size
 have HB := Aside0.mk hB
 clear hB
 have H : (if s0_2 = a1 then (some ((s0_3.toList == a2.toList), s0_0, s0_1, s0_2, s0_3, s0_4, s0_6, s0_8, s0_9, s0_10)) else (some (false, s0_0, s0_1, s0_2, s0_3, s0_4, s0_6, s0_8, s0_9, s0_10))) = some (r1, r2, r3, r4, r5, r6, r7, r8, r9, r10) := h
 clear h
 by_cases c4 : s0_2 = a1
 ·
  rw [if_pos c4] at H
  have c4b0 : (s0_2 == a1) = true := beq_iff_eq.mpr c4
  have c4b1 : (s0_2 != a1) = false := bne_eq_false_iff_eq.mpr c4
  clear c4
  simp only [Option.some.injEq, Prod.mk.injEq] at H
  obtain ⟨rfl, rfl, rfl, rfl, rfl, rfl, rfl, rfl, rfl, rfl⟩ := H
  obtain ⟨HGz5, hgz5⟩ := HI0.out
  have hcz5_0 := cellS60_0 HGz5
  have hcz5_1 := cellS60_1 HGz5
  have hcz5_2 := cellS60_2 HGz5
  have hcz5_3 := cellS60_3 HGz5
  have hcz5_4 := cellS60_4 HGz5
  have hcz5_5 := cellS60_5 HGz5
  have hcz5_6 := cellS60_6 HGz5
  have hcz5_7 := cellS60_7 HGz5
  have hcz5_8 := cellS60_8 HGz5
  have hcz5_9 := cellS60_9 HGz5
  have hcz5_10 := cellS60_10 HGz5
  have hfz5_0 := blk_frozen HGz5 0
  have hfz5_1 := blk_frozen HGz5 1
  have hfz5_2 := blk_frozen HGz5 2
  have hfz5_3 := blk_frozen HGz5 3
  have hfz5_4 := blk_frozen HGz5 4
  have hfz5_6 := blk_frozen HGz5 6
  have hfz5_8 := blk_frozen HGz5 8
  have hfz5_9 := blk_frozen HGz5 9
  have hfz5_10 := blk_frozen HGz5 10
  clear HGz5 hgz5
  go_enter Tryz.func69, Tryz.ntmps69
  go_wp2
  go_ret
  exact ⟨by first | rfl | (simp [errW_none, errW_some] <;> rfl) | (simp [*, errW_none, errW_some] <;> rfl), by repeat (first | (with_reducible first | exact HI0.out | apply IsS60.alloc | apply IsS60.drewN | apply IsS60.drew | apply IsS60.set_0 | apply IsS60.set_1 | apply IsS60.set_2 | apply IsS60.set_3 | apply IsS60.set_4 | apply IsS60.set_6 | apply IsS60.set_8 | apply IsS60.set_9 | apply IsS60.set_10) | exact HI0.out), by repeat (first | (with_reducible first | exact HB.out | apply below_alloc | apply pw_below_drewN | apply below_drew1 | refine below_set ?_ (IsS60.ge HI0.out)) | exact HB.out), by repeat (first | (with_reducible first | exact HK.out | apply KeepBut.set_ | apply keep_drewN | apply keep_drew | apply keep_alloc) | exact HK.out)⟩
 ·
  rw [if_neg c4] at H
  have c4b0 : (s0_2 == a1) = false := beq_eq_false_iff_ne.mpr c4
  have c4b1 : (s0_2 != a1) = true := bne_iff_ne.mpr c4
  simp only [Option.some.injEq, Prod.mk.injEq] at H
  obtain ⟨rfl, rfl, rfl, rfl, rfl, rfl, rfl, rfl, rfl, rfl⟩ := H
  obtain ⟨HGz6, hgz6⟩ := HI0.out
  have hcz6_0 := cellS60_0 HGz6
  have hcz6_1 := cellS60_1 HGz6
  have hcz6_2 := cellS60_2 HGz6
  have hcz6_3 := cellS60_3 HGz6
  have hcz6_4 := cellS60_4 HGz6
  have hcz6_5 := cellS60_5 HGz6
  have hcz6_6 := cellS60_6 HGz6
  have hcz6_7 := cellS60_7 HGz6
  have hcz6_8 := cellS60_8 HGz6
  have hcz6_9 := cellS60_9 HGz6
  have hcz6_10 := cellS60_10 HGz6
  have hfz6_0 := blk_frozen HGz6 0
  have hfz6_1 := blk_frozen HGz6 1
  have hfz6_2 := blk_frozen HGz6 2
  have hfz6_3 := blk_frozen HGz6 3
  have hfz6_4 := blk_frozen HGz6 4
  have hfz6_6 := blk_frozen HGz6 6
  have hfz6_8 := blk_frozen HGz6 8
  have hfz6_9 := blk_frozen HGz6 9
  have hfz6_10 := blk_frozen HGz6 10
  clear HGz6 hgz6
  go_enter Tryz.func69, Tryz.ntmps69
  go_wp2
  go_ret
  exact ⟨by first | rfl | (simp [errW_none, errW_some] <;> rfl) | (simp [*, errW_none, errW_some] <;> rfl), by repeat (first | (with_reducible first | exact HI0.out | apply IsS60.alloc | apply IsS60.drewN | apply IsS60.drew | apply IsS60.set_0 | apply IsS60.set_1 | apply IsS60.set_2 | apply IsS60.set_3 | apply IsS60.set_4 | apply IsS60.set_6 | apply IsS60.set_8 | apply IsS60.set_9 | apply IsS60.set_10) | exact HI0.out), by repeat (first | (with_reducible first | exact HB.out | apply below_alloc | apply pw_below_drewN | apply below_drew1 | refine below_set ?_ (IsS60.ge HI0.out)) | exact HB.out), by repeat (first | (with_reducible first | exact HK.out | apply KeepBut.set_ | apply keep_drewN | apply keep_drew | apply keep_alloc) | exact HK.out)⟩
def cairnref32_small.f (a0 : Int) : Option (Bool) := if a0 ≥ 97 then (some (decide (a0 ≤ 122))) else (some false)
set_option maxHeartbeats 8000000 in
set_option maxRecDepth 100000 in
theorem cairnref32_small.calls (a0 : Int) (r : Bool) (w : World) (h : cairnref32_small.f a0 = some r) :
  Calls Tryz.prog 70 #[.int .u8 a0] w fun e w' => e = .returned (.bool r) ∧ Drawn0 w w' := by
 have H : (if a0 ≥ 97 then (some (decide (a0 ≤ 122))) else (some false)) = some r := h
 clear h
 by_cases c2 : a0 ≥ 97
 ·
  rw [if_pos c2] at H
  have c2b0 : decide (97 ≤ a0) = true := decide_eq_true c2
  clear c2
  obtain rfl := Option.some.inj H
  go_enter Tryz.func70, Tryz.ntmps70
  go_wp2
  go_ret
  exact ⟨by first | rfl | (simp; done) | (simp [*]; done), by repeat (first | exact Drawn0.refl _ | apply Drawn0.step)⟩
 ·
  rw [if_neg c2] at H
  have c2b0 : decide (97 ≤ a0) = false := decide_eq_false c2
  clear c2
  obtain rfl := Option.some.inj H
  go_enter Tryz.func70, Tryz.ntmps70
  go_wp2
  go_ret
  exact ⟨by first | rfl | (simp; done) | (simp [*]; done), by repeat (first | exact Drawn0.refl _ | apply Drawn0.step)⟩
def cairnref32_digit.f (a0 : Int) : Option (Bool) := if a0 ≥ 48 then (some (decide (a0 ≤ 57))) else (some false)
set_option maxHeartbeats 8000000 in
set_option maxRecDepth 100000 in
theorem cairnref32_digit.calls (a0 : Int) (r : Bool) (w : World) (h : cairnref32_digit.f a0 = some r) :
  Calls Tryz.prog 71 #[.int .u8 a0] w fun e w' => e = .returned (.bool r) ∧ Drawn0 w w' := by
 have H : (if a0 ≥ 48 then (some (decide (a0 ≤ 57))) else (some false)) = some r := h
 clear h
 by_cases c2 : a0 ≥ 48
 ·
  rw [if_pos c2] at H
  have c2b0 : decide (48 ≤ a0) = true := decide_eq_true c2
  clear c2
  obtain rfl := Option.some.inj H
  go_enter Tryz.func71, Tryz.ntmps71
  go_wp2
  go_ret
  exact ⟨by first | rfl | (simp; done) | (simp [*]; done), by repeat (first | exact Drawn0.refl _ | apply Drawn0.step)⟩
 ·
  rw [if_neg c2] at H
  have c2b0 : decide (48 ≤ a0) = false := decide_eq_false c2
  clear c2
  obtain rfl := Option.some.inj H
  go_enter Tryz.func71, Tryz.ntmps71
  go_wp2
  go_ret
  exact ⟨by first | rfl | (simp; done) | (simp [*]; done), by repeat (first | exact Drawn0.refl _ | apply Drawn0.step)⟩
mutual
def cairnref32_Name.j0 : Nat → ByteArray → Bool → Option (Bool)
 | 0, _, _ => none
 | k + 1, x0, x17 => if x17 = true then (some false) else (cairnref32_Name.l0 k x0 0)
def cairnref32_Name.l0 : Nat → ByteArray → Int → Option (Bool)
 | 0, _, _ => none
 | k + 1, x0, x3 => if x3 < (x0.size : Int) then (if 0 ≤ x3 then ((cairnref32_small.f (bt x0 x3)).bind fun t174 => (if t174 = true then (cairnref32_Name.l0 k x0 (wrap64 (x3 + 1))) else ((cairnref32_digit.f (bt x0 x3)).bind fun t175 => (if t175 = true then (cairnref32_Name.l0 k x0 (wrap64 (x3 + 1))) else (if (bt x0 x3) = 95 then (cairnref32_Name.l0 k x0 (wrap64 (x3 + 1))) else (some false)))))) else (none)) else (some true)
end
def cairnref32_Name.f (k : Nat) (a0 : ByteArray) : Option (Bool) := if (a0.size : Int) < 1 then (cairnref32_Name.j0 k a0 true) else (if (a0.size : Int) > 16 then (cairnref32_Name.j0 k a0 true) else (if 0 < (a0.size : Int) then ((cairnref32_small.f (bt a0 0)).bind fun t173 => (cairnref32_Name.j0 k a0 (!t173))) else (none)))
set_option maxHeartbeats 8000000 in
set_option maxRecDepth 100000 in
theorem cairnref32_Name.calls (k : Nat) (a0 : ByteArray) (r : Bool) (w : World) (h : cairnref32_Name.f k a0 = some r) :
  Calls Tryz.prog 47 #[.string a0] w fun e w' => e = .returned (.bool r) ∧ Drawn0 w w' := by
 have H : (if (a0.size : Int) < 1 then (cairnref32_Name.j0 k a0 true) else (if (a0.size : Int) > 16 then (cairnref32_Name.j0 k a0 true) else (if 0 < (a0.size : Int) then ((cairnref32_small.f (bt a0 0)).bind fun t173 => (cairnref32_Name.j0 k a0 (!t173))) else (none)))) = some r := h
 clear h
 have HC2 := Aside0.mk H
 clear H
 go_enter Tryz.func47, Tryz.ntmps47
 go_upto_region 1 with (fail)
 go_cut [17] (fun v17 wc => ∃ (kq : Nat) (x17_1 : Bool), v17 = .bool x17_1 ∧ Aside0 (cairnref32_Name.j0 kq a0 x17_1 = some r) ∧ Aside0 (kq ≤ k) ∧ Drawn0 w wc)
 case first =>
  have H := HC2.out
  clear HC2
  by_cases c3 : (a0.size : Int) < 1
  ·
   rw [if_pos c3] at H
   have c3b0 : decide ((a0.size : Int) < 1) = true := decide_eq_true c3
   have c3b1 : decide (a0.size < 1) = true := decide_eq_true (by omega)
   clear c3
   (first | rw [c3b0] | (simp only [i64_w, i32_w]; rw [c3b0]) | skip)
   have H' := Aside0.mk H
   clear H
   go_wp2
   go_meet
   case rel => exact ⟨_, (true), (by first | rfl | (simp; done) | (simp [*]; done)), H', ⟨by first | omega | exact Nat.le_refl _⟩, by repeat (first | exact Drawn0.refl _ | apply Drawn0.step)⟩
  ·
   rw [if_neg c3] at H
   have c3b0 : decide ((a0.size : Int) < 1) = false := decide_eq_false c3
   have c3b1 : decide (a0.size < 1) = false := decide_eq_false (by omega)
   clear c3
   (first | rw [c3b0] | (simp only [i64_w, i32_w]; rw [c3b0]) | skip)
   by_cases c4 : (a0.size : Int) > 16
   ·
    rw [if_pos c4] at H
    have c4b0 : decide (16 < (a0.size : Int)) = true := decide_eq_true c4
    have c4b1 : decide (16 < a0.size) = true := decide_eq_true (by omega)
    clear c4
    have H' := Aside0.mk H
    clear H
    go_wp2
    go_meet
    case rel => exact ⟨_, (true), (by first | rfl | (simp; done) | (simp [*]; done)), H', ⟨by first | omega | exact Nat.le_refl _⟩, by repeat (first | exact Drawn0.refl _ | apply Drawn0.step)⟩
   ·
    rw [if_neg c4] at H
    have c4b0 : decide (16 < (a0.size : Int)) = false := decide_eq_false c4
    have c4b1 : decide (16 < a0.size) = false := decide_eq_false (by omega)
    clear c4
    by_cases c5 : 0 < (a0.size : Int)
    ·
     rw [if_pos c5] at H
     have c5b0 : decide (0 < (a0.size : Int)) = true := decide_eq_true c5
     have c5b1 : decide (0 < a0.size) = true := decide_eq_true (by omega)
     clear c5
     replace H := Option.bind_eq_some_iff.mp H
     obtain ⟨t173, A70, H⟩ := H
     replace H : (cairnref32_Name.j0 k a0 (!t173)) = some r := H
     have A7 := Aside0.mk A70
     clear A70
     have H' := Aside0.mk H
     clear H
     have p6 : 0 ≤ (0 : Int) := (by omega)
     have q6 : 0 < a0.size := (by have : (0 : Int) < (a0.size : Int) := of_decide_eq_true (by first | (with_reducible assumption) | assumption); omega)
     have hx6 : ∀ h : 0 < a0.size, ((a0[0]'h).toNat : Int) = bt a0 0 := bt_at a0 0
     clear p6
     have qi6 : (0 < (a0.size : Int)) = True := eq_true (of_decide_eq_true (by first | (with_reducible assumption) | assumption))
     replace q6 := eq_true q6
     go_wp2_with (first | (go_at_call 70; (with_reducible refine (cairnref32_small.calls (bt a0 0) t173 _ A7.out).mono ?_); rintro e w' ⟨rfl, ⟨nd, rfl⟩⟩))
     go_meet
     case rel => exact ⟨_, (!t173), (by first | rfl | (simp; done) | (simp [*]; done)), H', ⟨by first | omega | exact Nat.le_refl _⟩, by repeat (first | exact Drawn0.refl _ | apply Drawn0.step)⟩
    ·
     rw [if_neg c5] at H
     exact absurd H (by simp)
 case rest =>
  clear HC2
  obtain ⟨kq, x17_1, rfl, HA, HJ1, ⟨mc1, rfl⟩⟩ := hcut
  cases kq with
  | zero => exact absurd HA.out (by simp [cairnref32_Name.j0])
  | succ kj1 =>
   have H := HA.out
   clear HA
   simp only [cairnref32_Name.j0] at H
   by_cases c8 : x17_1 = true
   ·
    subst c8
    have H1 : (some false) = some r := by rw [if_pos rfl] at H; exact H
    clear H
    have H := H1
    clear H1
    obtain rfl := Option.some.inj H
    go_wp2
    go_ret
    exact ⟨by first | rfl | (simp; done) | (simp [*]; done), by repeat (first | exact Drawn0.refl _ | apply Drawn0.step)⟩
   ·
    replace c8 := Bool.eq_false_iff.mpr c8
    subst c8
    have H1 : (cairnref32_Name.l0 kj1 a0 0) = some r := by rw [if_neg (show ¬ (false = true) by decide)] at H; exact H
    clear H
    have H := H1
    clear H1
    have H' := Aside0.mk H
    clear H
    go_wp2
    go_loopg [3] kj1 (fun kq v3 w' => ∃ (x3_2 : Int), v3 = .int .i64 x3_2 ∧ Aside0 (cairnref32_Name.l0 kq a0 x3_2 = some r) ∧ Aside0 (kq ≤ kj1) ∧ Drawn0 w w')
    case atStart => exact ⟨(0), (by first | rfl | (simp; done) | (simp [*]; done)), H', ⟨Nat.le_refl _⟩, by repeat (first | exact Drawn0.refl _ | apply Drawn0.step)⟩
    case round =>
     clear H'
     try clear c8
     obtain ⟨x3_2, rfl, HA, HK2, ⟨m2, rfl⟩⟩ := hrel
     cases gk with
     | zero => exact absurd HA.out (by simp [cairnref32_Name.l0])
     | succ k2 =>
      have H := HA.out
      clear HA
      simp only [cairnref32_Name.l0] at H
      by_cases c9 : x3_2 < (a0.size : Int)
      ·
       rw [if_pos c9] at H
       have c9b0 : decide (x3_2 < (a0.size : Int)) = true := decide_eq_true c9
       clear c9
       by_cases c10 : 0 ≤ x3_2
       ·
        rw [if_pos c10] at H
        have c10b0 : decide (0 ≤ x3_2) = true := decide_eq_true c10
        clear c10
        replace H := Option.bind_eq_some_iff.mp H
        obtain ⟨t174, A120, H⟩ := H
        replace H : (if t174 = true then (cairnref32_Name.l0 k2 a0 (wrap64 (x3_2 + 1))) else ((cairnref32_digit.f (bt a0 x3_2)).bind fun t175 => (if t175 = true then (cairnref32_Name.l0 k2 a0 (wrap64 (x3_2 + 1))) else (if (bt a0 x3_2) = 95 then (cairnref32_Name.l0 k2 a0 (wrap64 (x3_2 + 1))) else (some false))))) = some r := H
        have A12 := Aside0.mk A120
        clear A120
        by_cases c13 : t174 = true
        ·
         subst c13
         have H1 : (cairnref32_Name.l0 k2 a0 (wrap64 (x3_2 + 1))) = some r := by rw [if_pos rfl] at H; exact H
         clear H
         have H := H1
         clear H1
         have H' := Aside0.mk H
         clear H
         have p11 : 0 ≤ (x3_2 : Int) := of_decide_eq_true (by first | (with_reducible assumption) | assumption)
         have q11 : x3_2 < (a0.size : Int) := of_decide_eq_true (by first | (with_reducible assumption) | assumption)
         have hx11 := bt_at a0 x3_2
         replace p11 := eq_true p11
         replace q11 := eq_true q11
         go_wp2_with (first | ((with_reducible refine gate_callee (f := 70) rfl ?_); refine goesL_ (some 27) rfl rfl Tryz.func70 (by kernel_rfl) rfl #[.int .u8 (bt a0 x3_2)] rfl (by (try simp only [List.map_toArray, List.map_cons, List.map_nil]); first | done | rfl | (simp only [List.length_drop, List.length_take]; rfl)) ?_; (with_reducible refine (cairnref32_small.calls (bt a0 x3_2) true _ A12.out).mono ?_); rintro e w' ⟨rfl, ⟨nd, rfl⟩⟩; refine ⟨_, rfl, ?_⟩))
         go_roundg k2
         case measure => have := HJ1.out; have := HK2.out; omega
         case rel => exact ⟨(wrap64 (x3_2 + 1)), (by first | rfl | (simp; done) | (simp [*]; done)), H', ⟨by have := HJ1.out; have := HK2.out; omega⟩, by repeat (first | exact Drawn0.refl _ | apply Drawn0.step)⟩
        ·
         replace c13 := Bool.eq_false_iff.mpr c13
         subst c13
         have H1 : ((cairnref32_digit.f (bt a0 x3_2)).bind fun t175 => (if t175 = true then (cairnref32_Name.l0 k2 a0 (wrap64 (x3_2 + 1))) else (if (bt a0 x3_2) = 95 then (cairnref32_Name.l0 k2 a0 (wrap64 (x3_2 + 1))) else (some false)))) = some r := by rw [if_neg (show ¬ (false = true) by decide)] at H; exact H
         clear H
         have H := H1
         clear H1
         replace H := Option.bind_eq_some_iff.mp H
         obtain ⟨t175, A150, H⟩ := H
         replace H : (if t175 = true then (cairnref32_Name.l0 k2 a0 (wrap64 (x3_2 + 1))) else (if (bt a0 x3_2) = 95 then (cairnref32_Name.l0 k2 a0 (wrap64 (x3_2 + 1))) else (some false))) = some r := H
         have A15 := Aside0.mk A150
         clear A150
         by_cases c16 : t175 = true
         ·
          subst c16
          have H1 : (cairnref32_Name.l0 k2 a0 (wrap64 (x3_2 + 1))) = some r := by rw [if_pos rfl] at H; exact H
          clear H
          have H := H1
          clear H1
          have H' := Aside0.mk H
          clear H
          have p11 : 0 ≤ (x3_2 : Int) := of_decide_eq_true (by first | (with_reducible assumption) | assumption)
          have q11 : x3_2 < (a0.size : Int) := of_decide_eq_true (by first | (with_reducible assumption) | assumption)
          have hx11 := bt_at a0 x3_2
          replace p11 := eq_true p11
          replace q11 := eq_true q11
          go_wp2_with (first | ((with_reducible refine gate_callee (f := 70) rfl ?_); refine goesL_ (some 27) rfl rfl Tryz.func70 (by kernel_rfl) rfl #[.int .u8 (bt a0 x3_2)] rfl (by (try simp only [List.map_toArray, List.map_cons, List.map_nil]); first | done | rfl | (simp only [List.length_drop, List.length_take]; rfl)) ?_; (with_reducible refine (cairnref32_small.calls (bt a0 x3_2) false _ A12.out).mono ?_); rintro e w' ⟨rfl, ⟨nd, rfl⟩⟩; refine ⟨_, rfl, ?_⟩; have p14 : 0 ≤ (x3_2 : Int) := of_decide_eq_true (by first | (with_reducible assumption) | assumption); have q14 : x3_2 < (a0.size : Int) := of_decide_eq_true (by first | (with_reducible assumption) | assumption); have hx14 := bt_at a0 x3_2; replace p14 := eq_true p14; replace q14 := eq_true q14) | (go_at_call 71; (with_reducible refine (cairnref32_digit.calls (bt a0 x3_2) true _ A15.out).mono ?_); rintro e w' ⟨rfl, ⟨nd, rfl⟩⟩))
          go_roundg k2
          case measure => have := HJ1.out; have := HK2.out; omega
          case rel => exact ⟨(wrap64 (x3_2 + 1)), (by first | rfl | (simp; done) | (simp [*]; done)), H', ⟨by have := HJ1.out; have := HK2.out; omega⟩, by repeat (first | exact Drawn0.refl _ | apply Drawn0.step)⟩
         ·
          replace c16 := Bool.eq_false_iff.mpr c16
          subst c16
          have H1 : (if (bt a0 x3_2) = 95 then (cairnref32_Name.l0 k2 a0 (wrap64 (x3_2 + 1))) else (some false)) = some r := by rw [if_neg (show ¬ (false = true) by decide)] at H; exact H
          clear H
          have H := H1
          clear H1
          by_cases c18 : (bt a0 x3_2) = 95
          ·
           rw [if_pos c18] at H
           have c18b0 : ((bt a0 x3_2) == 95) = true := beq_iff_eq.mpr c18
           have c18b1 : ((bt a0 x3_2) != 95) = false := bne_eq_false_iff_eq.mpr c18
           clear c18
           have H' := Aside0.mk H
           clear H
           have p11 : 0 ≤ (x3_2 : Int) := of_decide_eq_true (by first | (with_reducible assumption) | assumption)
           have q11 : x3_2 < (a0.size : Int) := of_decide_eq_true (by first | (with_reducible assumption) | assumption)
           have hx11 := bt_at a0 x3_2
           replace p11 := eq_true p11
           replace q11 := eq_true q11
           go_wp2_with (first | ((with_reducible refine gate_callee (f := 70) rfl ?_); refine goesL_ (some 27) rfl rfl Tryz.func70 (by kernel_rfl) rfl #[.int .u8 (bt a0 x3_2)] rfl (by (try simp only [List.map_toArray, List.map_cons, List.map_nil]); first | done | rfl | (simp only [List.length_drop, List.length_take]; rfl)) ?_; (with_reducible refine (cairnref32_small.calls (bt a0 x3_2) false _ A12.out).mono ?_); rintro e w' ⟨rfl, ⟨nd, rfl⟩⟩; refine ⟨_, rfl, ?_⟩; have p14 : 0 ≤ (x3_2 : Int) := of_decide_eq_true (by first | (with_reducible assumption) | assumption); have q14 : x3_2 < (a0.size : Int) := of_decide_eq_true (by first | (with_reducible assumption) | assumption); have hx14 := bt_at a0 x3_2; replace p14 := eq_true p14; replace q14 := eq_true q14) | (go_at_call 71; (with_reducible refine (cairnref32_digit.calls (bt a0 x3_2) false _ A15.out).mono ?_); rintro e w' ⟨rfl, ⟨nd, rfl⟩⟩; have p17 : 0 ≤ (x3_2 : Int) := of_decide_eq_true (by first | (with_reducible assumption) | assumption); have q17 : x3_2 < (a0.size : Int) := of_decide_eq_true (by first | (with_reducible assumption) | assumption); have hx17 := bt_at a0 x3_2; replace p17 := eq_true p17; replace q17 := eq_true q17))
           go_roundg k2
           case measure => have := HJ1.out; have := HK2.out; omega
           case rel => exact ⟨(wrap64 (x3_2 + 1)), (by first | rfl | (simp; done) | (simp [*]; done)), H', ⟨by have := HJ1.out; have := HK2.out; omega⟩, by repeat (first | exact Drawn0.refl _ | apply Drawn0.step)⟩
          ·
           rw [if_neg c18] at H
           have c18b0 : ((bt a0 x3_2) == 95) = false := beq_eq_false_iff_ne.mpr c18
           have c18b1 : ((bt a0 x3_2) != 95) = true := bne_iff_ne.mpr c18
           obtain rfl := Option.some.inj H
           have p11 : 0 ≤ (x3_2 : Int) := of_decide_eq_true (by first | (with_reducible assumption) | assumption)
           have q11 : x3_2 < (a0.size : Int) := of_decide_eq_true (by first | (with_reducible assumption) | assumption)
           have hx11 := bt_at a0 x3_2
           replace p11 := eq_true p11
           replace q11 := eq_true q11
           go_wp2_with (first | ((with_reducible refine gate_callee (f := 70) rfl ?_); refine goesL_ (some 27) rfl rfl Tryz.func70 (by kernel_rfl) rfl #[.int .u8 (bt a0 x3_2)] rfl (by (try simp only [List.map_toArray, List.map_cons, List.map_nil]); first | done | rfl | (simp only [List.length_drop, List.length_take]; rfl)) ?_; (with_reducible refine (cairnref32_small.calls (bt a0 x3_2) false _ A12.out).mono ?_); rintro e w' ⟨rfl, ⟨nd, rfl⟩⟩; refine ⟨_, rfl, ?_⟩; have p14 : 0 ≤ (x3_2 : Int) := of_decide_eq_true (by first | (with_reducible assumption) | assumption); have q14 : x3_2 < (a0.size : Int) := of_decide_eq_true (by first | (with_reducible assumption) | assumption); have hx14 := bt_at a0 x3_2; replace p14 := eq_true p14; replace q14 := eq_true q14) | (go_at_call 71; (with_reducible refine (cairnref32_digit.calls (bt a0 x3_2) false _ A15.out).mono ?_); rintro e w' ⟨rfl, ⟨nd, rfl⟩⟩; have p17 : 0 ≤ (x3_2 : Int) := of_decide_eq_true (by first | (with_reducible assumption) | assumption); have q17 : x3_2 < (a0.size : Int) := of_decide_eq_true (by first | (with_reducible assumption) | assumption); have hx17 := bt_at a0 x3_2; replace p17 := eq_true p17; replace q17 := eq_true q17))
           go_ret
           exact ⟨by first | rfl | (simp; done) | (simp [*]; done), by repeat (first | exact Drawn0.refl _ | apply Drawn0.step)⟩
       ·
        rw [if_neg c10] at H
        exact absurd H (by simp)
      ·
       rw [if_neg c9] at H
       have c9b0 : decide (x3_2 < (a0.size : Int)) = false := decide_eq_false c9
       clear c9
       obtain rfl := Option.some.inj H
       go_wp2
       go_ret
       exact ⟨by first | rfl | (simp; done) | (simp [*]; done), by repeat (first | exact Drawn0.refl _ | apply Drawn0.step)⟩
end Go.Proofs.YthhemephaabblaaGreatDoor.Q
