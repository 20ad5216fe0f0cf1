
import Derived.Test.YthhemephaabblaaGreatDoorZCc
namespace Go.Proofs.YthhemephaabblaaGreatDoor.Q
open Go.RowKit  Go.Proofs.YthhemephaabblaaGreatDoorW.PrintWords Go.Proofs.YthhemephaabblaaGreatDoorW.PrintLast Go.Proofs.YthhemephaabblaaGreatDoorW.PrintMore
attribute [local go_sem] max2_int min2_int max_two min_two max_three min_three max_four min_four
set_option linter.unusedVariables false
set_option linter.unusedSimpArgs false
def stringslite_HasPrefix.f (a0 : ByteArray) (a1 : ByteArray) : Option (Bool) := if (a0.size : Int) ≥ (a1.size : Int) then (if 0 ≤ (a1.size : Int) then (if (a1.size : Int) ≤ (a0.size : Int) then (some ((a0.extract 0 ((a1.size : Int) : Int).toNat).toList == a1.toList)) else (none)) else (none)) else (some false)
set_option maxHeartbeats 8000000 in
set_option maxRecDepth 100000 in
theorem stringslite_HasPrefix.calls (a0 : ByteArray) (a1 : ByteArray) (r : Bool) (w : World) (h : stringslite_HasPrefix.f a0 a1 = some r) :
  Calls Tryz.prog 100 #[.string a0, .string a1] w fun e w' => e = .returned (.bool r) ∧ Drawn0 w w' := by
 have H : (if (a0.size : Int) ≥ (a1.size : Int) then (if 0 ≤ (a1.size : Int) then (if (a1.size : Int) ≤ (a0.size : Int) then (some ((a0.extract 0 ((a1.size : Int) : Int).toNat).toList == a1.toList)) else (none)) else (none)) else (some false)) = some r := h
 clear h
 by_cases c3 : (a0.size : Int) ≥ (a1.size : Int)
 ·
  rw [if_pos c3] at H
  have c3b0 : decide ((a1.size : Int) ≤ (a0.size : Int)) = true := decide_eq_true c3
  have c3b1 : decide (a1.size ≤ a0.size) = true := decide_eq_true (Int.ofNat_le.mp c3)
  clear c3
  by_cases c4 : 0 ≤ (a1.size : Int)
  ·
   rw [if_pos c4] at H
   have c4b0 := eq_true c4
   have c4b1 : decide (0 ≤ (a1.size : Int)) = true := decide_eq_true c4
   clear c4
   by_cases c5 : (a1.size : Int) ≤ (a0.size : Int)
   ·
    rw [if_pos c5] at H
    have c5b0 := eq_true c5
    have c5b1 : decide ((a1.size : Int) ≤ (a0.size : Int)) = true := decide_eq_true c5
    clear c5
    obtain rfl := Option.some.inj H
    go_enter Tryz.func100, Tryz.ntmps100
    go_wp2
    go_ret
    exact ⟨by first | rfl | (simp; done) | (simp [*]; done), by repeat (first | exact Drawn0.refl _ | apply Drawn0.step)⟩
   ·
    rw [if_neg c5] at H
    exact absurd H (by simp)
  ·
   rw [if_neg c4] at H
   exact absurd H (by simp)
 ·
  rw [if_neg c3] at H
  have c3b0 : decide ((a1.size : Int) ≤ (a0.size : Int)) = false := decide_eq_false c3
  have c3b1 : decide (a1.size ≤ a0.size) = false := decide_eq_false (fun h => c3 (Int.ofNat_le.mpr h))
  clear c3
  obtain rfl := Option.some.inj H
  go_enter Tryz.func100, Tryz.ntmps100
  go_wp2
  go_ret
  exact ⟨by first | rfl | (simp; done) | (simp [*]; done), by repeat (first | exact Drawn0.refl _ | apply Drawn0.step)⟩
def strings_HasPrefix.f (a0 : ByteArray) (a1 : ByteArray) : Option (Bool) := (stringslite_HasPrefix.f a0 a1).bind fun t119 => (some t119)
set_option maxHeartbeats 8000000 in
set_option maxRecDepth 100000 in
theorem strings_HasPrefix.calls (a0 : ByteArray) (a1 : ByteArray) (r : Bool) (w : World) (h : strings_HasPrefix.f a0 a1 = some r) :
  Calls Tryz.prog 82 #[.string a0, .string a1] w fun e w' => e = .returned (.bool r) ∧ Drawn0 w w' := by
 have H : ((stringslite_HasPrefix.f a0 a1).bind fun t119 => (some t119)) = some r := h
 clear h
 replace H := Option.bind_eq_some_iff.mp H
 obtain ⟨t119, A30, H⟩ := H
 replace H : (some t119) = some r := H
 have A3 := Aside0.mk A30
 clear A30
 obtain rfl := Option.some.inj H
 go_enter Tryz.func82, Tryz.ntmps82
 go_wp2_with (first | ((with_reducible refine gate_callee (f := 100) rfl ?_); refine goesL_ (some 7) rfl rfl Tryz.func100 (by kernel_rfl) rfl #[.string a0, .string a1] rfl (by (try simp only [List.map_toArray, List.map_cons, List.map_nil]); first | done | rfl | (simp only [List.length_drop, List.length_take]; rfl)) ?_; (with_reducible refine (stringslite_HasPrefix.calls a0 a1 t119 _ A3.out).mono ?_); rintro e w' ⟨rfl, ⟨nd, rfl⟩⟩; refine ⟨_, rfl, ?_⟩))
 go_ret
 exact ⟨by first | rfl | (simp; done) | (simp [*]; done), by repeat (first | exact Drawn0.refl _ | apply Drawn0.step)⟩
def IsS60 (w0 W : World) (g : Nat) (f0 : ByteArray) (f1 : Int) (f2 : Int) (f3 : ByteArray) (f4 : Int) (f5 : Value) (f6 : ByteArray) (f7 : Value) (f8 : ByteArray) (f9 : Bool) (f10 : Int) : Prop := W.heap[g]? = some (.cells #[.string f0, .int .i64 f1, .int .i64 f2, .string f3, .int .i64 f4, f5, .string f6, f7, .string f8, .bool f9, .int .i64 f10] 60 (0, 0)) ∧ w0.heap.size ≤ g
theorem IsS60.grown {w0 W : World} {g : Nat} {f0 : ByteArray} {f1 : Int} {f2 : Int} {f3 : ByteArray} {f4 : Int} {f5 : Value} {f6 : ByteArray} {f7 : Value} {f8 : ByteArray} {f9 : Bool} {f10 : Int} {W1 : World} {row : Option Nat} (h : IsS60 w0 W g f0 f1 f2 f3 f4 f5 f6 f7 f8 f9 f10) (hw : W.grownBy W1 row) (hne : some g ≠ row) : IsS60 w0 W1 g f0 f1 f2 f3 f4 f5 f6 f7 f8 f9 f10 := by
 obtain ⟨hb, hg⟩ := h
 exact ⟨blk_grown hb hw hne, hg⟩
theorem IsS60.below {w0 W : World} {g : Nat} {f0 : ByteArray} {f1 : Int} {f2 : Int} {f3 : ByteArray} {f4 : Int} {f5 : Value} {f6 : ByteArray} {f7 : Value} {f8 : ByteArray} {f9 : Bool} {f10 : Int} {W1 : World} (h : IsS60 w0 W g f0 f1 f2 f3 f4 f5 f6 f7 f8 f9 f10) (hw : Below W.heap.size W W1) : IsS60 w0 W1 g f0 f1 f2 f3 f4 f5 f6 f7 f8 f9 f10 := h.grown (grown_of_below hw none) (by simp)
theorem IsS60.alloc {w0 W : World} {g : Nat} {f0 : ByteArray} {f1 : Int} {f2 : Int} {f3 : ByteArray} {f4 : Int} {f5 : Value} {f6 : ByteArray} {f7 : Value} {f8 : ByteArray} {f9 : Bool} {f10 : Int} (h : IsS60 w0 W g f0 f1 f2 f3 f4 f5 f6 f7 f8 f9 f10) (o : Obj) : IsS60 w0 (W.alloc o) g f0 f1 f2 f3 f4 f5 f6 f7 f8 f9 f10 := h.below (below_alloc (Below.refl _ _) o)
theorem IsS60.drewN {w0 W : World} {g : Nat} {f0 : ByteArray} {f1 : Int} {f2 : Int} {f3 : ByteArray} {f4 : Int} {f5 : Value} {f6 : ByteArray} {f7 : Value} {f8 : ByteArray} {f9 : Bool} {f10 : Int} (h : IsS60 w0 W g f0 f1 f2 f3 f4 f5 f6 f7 f8 f9 f10) (m : Nat) : IsS60 w0 (W.drewN m) g f0 f1 f2 f3 f4 f5 f6 f7 f8 f9 f10 := h
theorem IsS60.drew {w0 W : World} {g : Nat} {f0 : ByteArray} {f1 : Int} {f2 : Int} {f3 : ByteArray} {f4 : Int} {f5 : Value} {f6 : ByteArray} {f7 : Value} {f8 : ByteArray} {f9 : Bool} {f10 : Int} (h : IsS60 w0 W g f0 f1 f2 f3 f4 f5 f6 f7 f8 f9 f10) : IsS60 w0 W.drew g f0 f1 f2 f3 f4 f5 f6 f7 f8 f9 f10 := h
theorem IsS60.at_ {w0 W : World} {g : Nat} {f0 : ByteArray} {f1 : Int} {f2 : Int} {f3 : ByteArray} {f4 : Int} {f5 : Value} {f6 : ByteArray} {f7 : Value} {f8 : ByteArray} {f9 : Bool} {f10 : Int} {w' : World} {m : Nat} (hq : W.drewN m = w') (h : IsS60 w0 W g f0 f1 f2 f3 f4 f5 f6 f7 f8 f9 f10) : IsS60 w0 w' g f0 f1 f2 f3 f4 f5 f6 f7 f8 f9 f10 := by subst hq; exact IsS60.drewN h m
theorem IsS60.own_ne {w0 W : World} {g : Nat} {f0 : ByteArray} {f1 : Int} {f2 : Int} {f3 : ByteArray} {f4 : Int} {f5 : Value} {f6 : ByteArray} {f7 : Value} {f8 : ByteArray} {f9 : Bool} {f10 : Int} {α : Type} {d : Kd α} {e : Nat} {base : Nat} {ok : Nat → Prop} {v : Value} {xs : List α} (h : IsS60 w0 W g f0 f1 f2 f3 f4 f5 f6 f7 f8 f9 f10) (ho : d.R e W base ok v xs) (ht : e ≠ 60) : some g ≠ v.ownBlock := by
 obtain ⟨hb, hg⟩ := h
 exact Kd.R_ne ho hb ht
theorem IsS60.lt {w0 W : World} {g : Nat} {f0 : ByteArray} {f1 : Int} {f2 : Int} {f3 : ByteArray} {f4 : Int} {f5 : Value} {f6 : ByteArray} {f7 : Value} {f8 : ByteArray} {f9 : Bool} {f10 : Int} (h : IsS60 w0 W g f0 f1 f2 f3 f4 f5 f6 f7 f8 f9 f10) : g < W.heap.size := by
 obtain ⟨hb, hg⟩ := h
 exact blk_lt hb
theorem IsS60.ge {w0 W : World} {g : Nat} {f0 : ByteArray} {f1 : Int} {f2 : Int} {f3 : ByteArray} {f4 : Int} {f5 : Value} {f6 : ByteArray} {f7 : Value} {f8 : ByteArray} {f9 : Bool} {f10 : Int} (h : IsS60 w0 W g f0 f1 f2 f3 f4 f5 f6 f7 f8 f9 f10) : w0.heap.size ≤ g := by
 obtain ⟨hb, hg⟩ := h
 exact hg
theorem cellS60_0 {W : World} {g : Nat} {f0 : ByteArray} {f1 : Int} {f2 : Int} {f3 : ByteArray} {f4 : Int} {f5 : Value} {f6 : ByteArray} {f7 : Value} {f8 : ByteArray} {f9 : Bool} {f10 : Int} (h : W.heap[g]? = some (.cells #[.string f0, .int .i64 f1, .int .i64 f2, .string f3, .int .i64 f4, f5, .string f6, f7, .string f8, .bool f9, .int .i64 f10] 60 (0, 0))) : W.cell? ⟨g, 0, none⟩ = some (.string f0) := (blk_cell h 0).trans rfl
theorem IsS60.set_0 {w0 W : World} {g : Nat} {f0 : ByteArray} {f1 : Int} {f2 : Int} {f3 : ByteArray} {f4 : Int} {f5 : Value} {f6 : ByteArray} {f7 : Value} {f8 : ByteArray} {f9 : Bool} {f10 : Int} (h : IsS60 w0 W g f0 f1 f2 f3 f4 f5 f6 f7 f8 f9 f10) (x : ByteArray) : IsS60 w0 (W.setCell ⟨g, 0, none⟩ (.string x)) g x f1 f2 f3 f4 f5 f6 f7 f8 f9 f10 := by
 obtain ⟨hb, hg⟩ := h
 exact ⟨by simpa using blk_set hb 0 (.string x), hg⟩
theorem cellS60_1 {W : World} {g : Nat} {f0 : ByteArray} {f1 : Int} {f2 : Int} {f3 : ByteArray} {f4 : Int} {f5 : Value} {f6 : ByteArray} {f7 : Value} {f8 : ByteArray} {f9 : Bool} {f10 : Int} (h : W.heap[g]? = some (.cells #[.string f0, .int .i64 f1, .int .i64 f2, .string f3, .int .i64 f4, f5, .string f6, f7, .string f8, .bool f9, .int .i64 f10] 60 (0, 0))) : W.cell? ⟨g, 1, none⟩ = some (.int .i64 f1) := (blk_cell h 1).trans rfl
theorem IsS60.set_1 {w0 W : World} {g : Nat} {f0 : ByteArray} {f1 : Int} {f2 : Int} {f3 : ByteArray} {f4 : Int} {f5 : Value} {f6 : ByteArray} {f7 : Value} {f8 : ByteArray} {f9 : Bool} {f10 : Int} (h : IsS60 w0 W g f0 f1 f2 f3 f4 f5 f6 f7 f8 f9 f10) (x : Int) : IsS60 w0 (W.setCell ⟨g, 1, none⟩ (.int .i64 x)) g f0 x f2 f3 f4 f5 f6 f7 f8 f9 f10 := by
 obtain ⟨hb, hg⟩ := h
 exact ⟨by simpa using blk_set hb 1 (.int .i64 x), hg⟩
theorem cellS60_2 {W : World} {g : Nat} {f0 : ByteArray} {f1 : Int} {f2 : Int} {f3 : ByteArray} {f4 : Int} {f5 : Value} {f6 : ByteArray} {f7 : Value} {f8 : ByteArray} {f9 : Bool} {f10 : Int} (h : W.heap[g]? = some (.cells #[.string f0, .int .i64 f1, .int .i64 f2, .string f3, .int .i64 f4, f5, .string f6, f7, .string f8, .bool f9, .int .i64 f10] 60 (0, 0))) : W.cell? ⟨g, 2, none⟩ = some (.int .i64 f2) := (blk_cell h 2).trans rfl
theorem IsS60.set_2 {w0 W : World} {g : Nat} {f0 : ByteArray} {f1 : Int} {f2 : Int} {f3 : ByteArray} {f4 : Int} {f5 : Value} {f6 : ByteArray} {f7 : Value} {f8 : ByteArray} {f9 : Bool} {f10 : Int} (h : IsS60 w0 W g f0 f1 f2 f3 f4 f5 f6 f7 f8 f9 f10) (x : Int) : IsS60 w0 (W.setCell ⟨g, 2, none⟩ (.int .i64 x)) g f0 f1 x f3 f4 f5 f6 f7 f8 f9 f10 := by
 obtain ⟨hb, hg⟩ := h
 exact ⟨by simpa using blk_set hb 2 (.int .i64 x), hg⟩
theorem cellS60_3 {W : World} {g : Nat} {f0 : ByteArray} {f1 : Int} {f2 : Int} {f3 : ByteArray} {f4 : Int} {f5 : Value} {f6 : ByteArray} {f7 : Value} {f8 : ByteArray} {f9 : Bool} {f10 : Int} (h : W.heap[g]? = some (.cells #[.string f0, .int .i64 f1, .int .i64 f2, .string f3, .int .i64 f4, f5, .string f6, f7, .string f8, .bool f9, .int .i64 f10] 60 (0, 0))) : W.cell? ⟨g, 3, none⟩ = some (.string f3) := (blk_cell h 3).trans rfl
theorem IsS60.set_3 {w0 W : World} {g : Nat} {f0 : ByteArray} {f1 : Int} {f2 : Int} {f3 : ByteArray} {f4 : Int} {f5 : Value} {f6 : ByteArray} {f7 : Value} {f8 : ByteArray} {f9 : Bool} {f10 : Int} (h : IsS60 w0 W g f0 f1 f2 f3 f4 f5 f6 f7 f8 f9 f10) (x : ByteArray) : IsS60 w0 (W.setCell ⟨g, 3, none⟩ (.string x)) g f0 f1 f2 x f4 f5 f6 f7 f8 f9 f10 := by
 obtain ⟨hb, hg⟩ := h
 exact ⟨by simpa using blk_set hb 3 (.string x), hg⟩
theorem cellS60_4 {W : World} {g : Nat} {f0 : ByteArray} {f1 : Int} {f2 : Int} {f3 : ByteArray} {f4 : Int} {f5 : Value} {f6 : ByteArray} {f7 : Value} {f8 : ByteArray} {f9 : Bool} {f10 : Int} (h : W.heap[g]? = some (.cells #[.string f0, .int .i64 f1, .int .i64 f2, .string f3, .int .i64 f4, f5, .string f6, f7, .string f8, .bool f9, .int .i64 f10] 60 (0, 0))) : W.cell? ⟨g, 4, none⟩ = some (.int .i64 f4) := (blk_cell h 4).trans rfl
theorem IsS60.set_4 {w0 W : World} {g : Nat} {f0 : ByteArray} {f1 : Int} {f2 : Int} {f3 : ByteArray} {f4 : Int} {f5 : Value} {f6 : ByteArray} {f7 : Value} {f8 : ByteArray} {f9 : Bool} {f10 : Int} (h : IsS60 w0 W g f0 f1 f2 f3 f4 f5 f6 f7 f8 f9 f10) (x : Int) : IsS60 w0 (W.setCell ⟨g, 4, none⟩ (.int .i64 x)) g f0 f1 f2 f3 x f5 f6 f7 f8 f9 f10 := by
 obtain ⟨hb, hg⟩ := h
 exact ⟨by simpa using blk_set hb 4 (.int .i64 x), hg⟩
theorem cellS60_5 {W : World} {g : Nat} {f0 : ByteArray} {f1 : Int} {f2 : Int} {f3 : ByteArray} {f4 : Int} {f5 : Value} {f6 : ByteArray} {f7 : Value} {f8 : ByteArray} {f9 : Bool} {f10 : Int} (h : W.heap[g]? = some (.cells #[.string f0, .int .i64 f1, .int .i64 f2, .string f3, .int .i64 f4, f5, .string f6, f7, .string f8, .bool f9, .int .i64 f10] 60 (0, 0))) : W.cell? ⟨g, 5, none⟩ = some (f5) := (blk_cell h 5).trans rfl
theorem cellS60_6 {W : World} {g : Nat} {f0 : ByteArray} {f1 : Int} {f2 : Int} {f3 : ByteArray} {f4 : Int} {f5 : Value} {f6 : ByteArray} {f7 : Value} {f8 : ByteArray} {f9 : Bool} {f10 : Int} (h : W.heap[g]? = some (.cells #[.string f0, .int .i64 f1, .int .i64 f2, .string f3, .int .i64 f4, f5, .string f6, f7, .string f8, .bool f9, .int .i64 f10] 60 (0, 0))) : W.cell? ⟨g, 6, none⟩ = some (.string f6) := (blk_cell h 6).trans rfl
theorem IsS60.set_6 {w0 W : World} {g : Nat} {f0 : ByteArray} {f1 : Int} {f2 : Int} {f3 : ByteArray} {f4 : Int} {f5 : Value} {f6 : ByteArray} {f7 : Value} {f8 : ByteArray} {f9 : Bool} {f10 : Int} (h : IsS60 w0 W g f0 f1 f2 f3 f4 f5 f6 f7 f8 f9 f10) (x : ByteArray) : IsS60 w0 (W.setCell ⟨g, 6, none⟩ (.string x)) g f0 f1 f2 f3 f4 f5 x f7 f8 f9 f10 := by
 obtain ⟨hb, hg⟩ := h
 exact ⟨by simpa using blk_set hb 6 (.string x), hg⟩
theorem cellS60_7 {W : World} {g : Nat} {f0 : ByteArray} {f1 : Int} {f2 : Int} {f3 : ByteArray} {f4 : Int} {f5 : Value} {f6 : ByteArray} {f7 : Value} {f8 : ByteArray} {f9 : Bool} {f10 : Int} (h : W.heap[g]? = some (.cells #[.string f0, .int .i64 f1, .int .i64 f2, .string f3, .int .i64 f4, f5, .string f6, f7, .string f8, .bool f9, .int .i64 f10] 60 (0, 0))) : W.cell? ⟨g, 7, none⟩ = some (f7) := (blk_cell h 7).trans rfl
theorem cellS60_8 {W : World} {g : Nat} {f0 : ByteArray} {f1 : Int} {f2 : Int} {f3 : ByteArray} {f4 : Int} {f5 : Value} {f6 : ByteArray} {f7 : Value} {f8 : ByteArray} {f9 : Bool} {f10 : Int} (h : W.heap[g]? = some (.cells #[.string f0, .int .i64 f1, .int .i64 f2, .string f3, .int .i64 f4, f5, .string f6, f7, .string f8, .bool f9, .int .i64 f10] 60 (0, 0))) : W.cell? ⟨g, 8, none⟩ = some (.string f8) := (blk_cell h 8).trans rfl
theorem IsS60.set_8 {w0 W : World} {g : Nat} {f0 : ByteArray} {f1 : Int} {f2 : Int} {f3 : ByteArray} {f4 : Int} {f5 : Value} {f6 : ByteArray} {f7 : Value} {f8 : ByteArray} {f9 : Bool} {f10 : Int} (h : IsS60 w0 W g f0 f1 f2 f3 f4 f5 f6 f7 f8 f9 f10) (x : ByteArray) : IsS60 w0 (W.setCell ⟨g, 8, none⟩ (.string x)) g f0 f1 f2 f3 f4 f5 f6 f7 x f9 f10 := by
 obtain ⟨hb, hg⟩ := h
 exact ⟨by simpa using blk_set hb 8 (.string x), hg⟩
theorem cellS60_9 {W : World} {g : Nat} {f0 : ByteArray} {f1 : Int} {f2 : Int} {f3 : ByteArray} {f4 : Int} {f5 : Value} {f6 : ByteArray} {f7 : Value} {f8 : ByteArray} {f9 : Bool} {f10 : Int} (h : W.heap[g]? = some (.cells #[.string f0, .int .i64 f1, .int .i64 f2, .string f3, .int .i64 f4, f5, .string f6, f7, .string f8, .bool f9, .int .i64 f10] 60 (0, 0))) : W.cell? ⟨g, 9, none⟩ = some (.bool f9) := (blk_cell h 9).trans rfl
theorem IsS60.set_9 {w0 W : World} {g : Nat} {f0 : ByteArray} {f1 : Int} {f2 : Int} {f3 : ByteArray} {f4 : Int} {f5 : Value} {f6 : ByteArray} {f7 : Value} {f8 : ByteArray} {f9 : Bool} {f10 : Int} (h : IsS60 w0 W g f0 f1 f2 f3 f4 f5 f6 f7 f8 f9 f10) (x : Bool) : IsS60 w0 (W.setCell ⟨g, 9, none⟩ (.bool x)) g f0 f1 f2 f3 f4 f5 f6 f7 f8 x f10 := by
 obtain ⟨hb, hg⟩ := h
 exact ⟨by simpa using blk_set hb 9 (.bool x), hg⟩
theorem cellS60_10 {W : World} {g : Nat} {f0 : ByteArray} {f1 : Int} {f2 : Int} {f3 : ByteArray} {f4 : Int} {f5 : Value} {f6 : ByteArray} {f7 : Value} {f8 : ByteArray} {f9 : Bool} {f10 : Int} (h : W.heap[g]? = some (.cells #[.string f0, .int .i64 f1, .int .i64 f2, .string f3, .int .i64 f4, f5, .string f6, f7, .string f8, .bool f9, .int .i64 f10] 60 (0, 0))) : W.cell? ⟨g, 10, none⟩ = some (.int .i64 f10) := (blk_cell h 10).trans rfl
theorem IsS60.set_10 {w0 W : World} {g : Nat} {f0 : ByteArray} {f1 : Int} {f2 : Int} {f3 : ByteArray} {f4 : Int} {f5 : Value} {f6 : ByteArray} {f7 : Value} {f8 : ByteArray} {f9 : Bool} {f10 : Int} (h : IsS60 w0 W g f0 f1 f2 f3 f4 f5 f6 f7 f8 f9 f10) (x : Int) : IsS60 w0 (W.setCell ⟨g, 10, none⟩ (.int .i64 x)) g f0 f1 f2 f3 f4 f5 f6 f7 f8 f9 x := by
 obtain ⟨hb, hg⟩ := h
 exact ⟨by simpa using blk_set hb 10 (.int .i64 x), hg⟩
def query_reader_quoted.l0 : Nat → Int → List Int → Int → ByteArray → Int → Int → ByteArray → Int → Value → ByteArray → Value → ByteArray → Bool → Int → Option (ByteArray × Int × Int × ByteArray × Int × ByteArray × ByteArray × Bool × Int)
 | 0, _, _, _, _, _, _, _, _, _, _, _, _, _, _ => none
 | k + 1, x1, x4, x5, x1000, x1001, x1002, x1003, x1004, x1005, x1006, x1007, x1008, x1009, x1010 => if x5 < (x1000.size : Int) then (if 0 ≤ x5 then (if (bt x1000 x5) = 34 then (some (x1000, wrap64 (x5 + 1), 4, strOfNums x4, x1, x1006, x1008, x1009, x1010)) else (if (bt x1000 x5) = 92 then (if (wrap64 (x5 + 1)) = (x1000.size : Int) then (some (x1000, x1001, x1002, x1003, x1004, x1006, x1008, x1009, x1010)) else (if 0 ≤ (wrap64 (x5 + 1)) then (if (wrap64 (x5 + 1)) < (x1000.size : Int) then (if (bt x1000 (wrap64 (x5 + 1))) = 34 then (if x4.length < 140737488355328 then (query_reader_quoted.l0 k x1 (x4 ++ [bt x1000 (wrap64 (x5 + 1))]) (wrap64 ((wrap64 (x5 + 1)) + 1)) x1000 x1001 x1002 x1003 x1004 x1005 x1006 x1007 x1008 x1009 x1010) else (none)) else (if (bt x1000 (wrap64 (x5 + 1))) = 92 then (if x4.length < 140737488355328 then (query_reader_quoted.l0 k x1 (x4 ++ [bt x1000 (wrap64 (x5 + 1))]) (wrap64 ((wrap64 (x5 + 1)) + 1)) x1000 x1001 x1002 x1003 x1004 x1005 x1006 x1007 x1008 x1009 x1010) else (none)) else (some (x1000, x1001, x1002, x1003, x1004, x1006, x1008, x1009, x1010)))) else (none)) else (none))) else (if x4.length < 140737488355328 then (query_reader_quoted.l0 k x1 (x4 ++ [bt x1000 x5]) (wrap64 (x5 + 1)) x1000 x1001 x1002 x1003 x1004 x1005 x1006 x1007 x1008 x1009 x1010) else (none)))) else (none)) else (some (x1000, x1001, x1002, x1003, x1004, x1006, x1008, x1009, x1010))
def query_reader_quoted.f (k : Nat) (s0_0 : ByteArray) (s0_1 : Int) (s0_2 : Int) (s0_3 : ByteArray) (s0_4 : Int) (s0_5 : Value) (s0_6 : ByteArray) (s0_7 : Value) (s0_8 : ByteArray) (s0_9 : Bool) (s0_10 : Int) (a1 : Int) : Option (ByteArray × Int × Int × ByteArray × Int × ByteArray × ByteArray × Bool × Int) := query_reader_quoted.l0 k a1 ([] : List Int) (wrap64 (a1 + 1)) s0_0 a1 1 (⟨#[]⟩ : ByteArray) a1 s0_5 s0_6 s0_7 s0_8 s0_9 s0_10
theorem query_reader_quoted.mono_l : ∀ k, (∀ y0 y1 y2 y3 y4 y5 y6 y7 y8 y9 y10 y11 y12 y13, LeO (query_reader_quoted.l0 k y0 y1 y2 y3 y4 y5 y6 y7 y8 y9 y10 y11 y12 y13) (query_reader_quoted.l0 (k + 1) y0 y1 y2 y3 y4 y5 y6 y7 y8 y9 y10 y11 y12 y13))
 | 0 => fun _ _ _ _ _ _ _ _ _ _ _ _ _ _ r h => by simp [query_reader_quoted.l0] at h
 | k + 1 => by
  have ih0 := query_reader_quoted.mono_l k
  ·
   intro y0 y1 y2 y3 y4 y5 y6 y7 y8 y9 y10 y11 y12 y13
   unfold query_reader_quoted.l0
   repeat' first
   | (with_reducible exact ih0 _ _ _ _ _ _ _ _ _ _ _ _ _ _)
   | (with_reducible exact LeO.refl _)
   | (with_reducible exact LeO.none _)
   | (with_reducible refine LeO.ite ?_ ?_)
   | (with_reducible refine LeO.bind ?_ (fun _ => ?_))
   | exact ih0 _ _ _ _ _ _ _ _ _ _ _ _ _ _
   | exact LeO.none _
   | refine LeO.ite ?_ ?_
   | refine LeO.bind ?_ (fun _ => ?_)
theorem query_reader_quoted.mono : ∀ a0 a1 a2 a3 a4 a5 a6 a7 a8 a9 a10 a11 k, LeO (query_reader_quoted.f k a0 a1 a2 a3 a4 a5 a6 a7 a8 a9 a10 a11) (query_reader_quoted.f (k + 1) a0 a1 a2 a3 a4 a5 a6 a7 a8 a9 a10 a11) := by
 intro a0 a1 a2 a3 a4 a5 a6 a7 a8 a9 a10 a11 k
 have ih0 := query_reader_quoted.mono_l k
 unfold query_reader_quoted.f
 repeat' first
   | (with_reducible exact ih0 _ _ _ _ _ _ _ _ _ _ _ _ _ _)
   | (with_reducible exact LeO.refl _)
   | (with_reducible exact LeO.none _)
   | (with_reducible refine LeO.ite ?_ ?_)
   | (with_reducible refine LeO.bind ?_ (fun _ => ?_))
   | exact ih0 _ _ _ _ _ _ _ _ _ _ _ _ _ _
   | exact LeO.none _
   | refine LeO.ite ?_ ?_
   | refine LeO.bind ?_ (fun _ => ?_)
set_option maxHeartbeats 8000000 in
set_option maxRecDepth 100000 in
theorem query_reader_quoted.calls (k : Nat) (g : Nat) (s0_0 : ByteArray) (s0_1 : Int) (s0_2 : Int) (s0_3 : ByteArray) (s0_4 : Int) (s0_5 : Value) (s0_6 : ByteArray) (s0_7 : Value) (s0_8 : ByteArray) (s0_9 : Bool) (s0_10 : Int) (a1 : Int) (r1 : ByteArray) (r2 : Int) (r3 : Int) (r4 : ByteArray) (r5 : Int) (r6 : ByteArray) (r7 : ByteArray) (r8 : Bool) (r9 : Int) (w0 w : World) (hI : IsS60 w0 w g s0_0 s0_1 s0_2 s0_3 s0_4 s0_5 s0_6 s0_7 s0_8 s0_9 s0_10) (hB : Below w0.heap.size w0 w) (h : query_reader_quoted.f k s0_0 s0_1 s0_2 s0_3 s0_4 s0_5 s0_6 s0_7 s0_8 s0_9 s0_10 a1 = some (r1, r2, r3, r4, r5, r6, r7, r8, r9)) :
  Calls Tryz.prog 67 #[.pointer (some ⟨g, 0, none⟩), .int .i64 a1] w fun e w' => e = .returned (.tuple #[]) ∧ IsS60 w0 w' g r1 r2 r3 r4 r5 s0_5 r6 s0_7 r7 r8 r9 ∧ Below w0.heap.size w0 w' ∧ KeepBut w w' g none := by
 have hu58 := Tryz.underlying58
 have HI0 := Aside0.mk hI
 have HK := Aside0.mk (KeepBut.refl w g none)
 have HL := Aside0.mk hB.size
 clear hI
 have HW0 := Aside0.mk hB.size
 have HB := Aside0.mk hB
 clear hB
 have H : (query_reader_quoted.l0 k a1 ([] : List Int) (wrap64 (a1 + 1)) s0_0 a1 1 (⟨#[]⟩ : ByteArray) a1 s0_5 s0_6 s0_7 s0_8 s0_9 s0_10) = some (r1, r2, r3, r4, r5, r6, r7, r8, r9) := h
 clear h
 have H' := Aside0.mk H
 clear H
 obtain ⟨HGz3, hgz3⟩ := HI0.out
 have hcz3_0 := cellS60_0 HGz3
 have hcz3_1 := cellS60_1 HGz3
 have hcz3_2 := cellS60_2 HGz3
 have hcz3_3 := cellS60_3 HGz3
 have hcz3_4 := cellS60_4 HGz3
 have hcz3_5 := cellS60_5 HGz3
 have hcz3_6 := cellS60_6 HGz3
 have hcz3_7 := cellS60_7 HGz3
 have hcz3_8 := cellS60_8 HGz3
 have hcz3_9 := cellS60_9 HGz3
 have hcz3_10 := cellS60_10 HGz3
 have hfz3_0 := blk_frozen HGz3 0
 have hfz3_1 := blk_frozen HGz3 1
 have hfz3_2 := blk_frozen HGz3 2
 have hfz3_3 := blk_frozen HGz3 3
 have hfz3_4 := blk_frozen HGz3 4
 have hfz3_6 := blk_frozen HGz3 6
 have hfz3_8 := blk_frozen HGz3 8
 have hfz3_9 := blk_frozen HGz3 9
 have hfz3_10 := blk_frozen HGz3 10
 clear HGz3 hgz3
 go_enter Tryz.func67, Tryz.ntmps67
 go_wp2
 go_loopg [4, 5] k (fun kq v4 v5 w' => ∃ (x4_1 : List Int) (x5_1 : Int) (x1001_1 : Int) (x1002_1 : Int) (x1003_1 : ByteArray) (x1004_1 : Int), v5 = .int .i64 x5_1 ∧ Aside0 (query_reader_quoted.l0 kq a1 x4_1 x5_1 s0_0 x1001_1 x1002_1 x1003_1 x1004_1 s0_5 s0_6 s0_7 s0_8 s0_9 s0_10 = some (r1, r2, r3, r4, r5, r6, r7, r8, r9)) ∧ Aside0 (kq ≤ k) ∧ Aside0 (Kd.R (Kd.int .u8) 5 w' w.heap.size (fun _ => True) v4 x4_1) ∧ Aside0 (IsS60 w0 w' g s0_0 x1001_1 x1002_1 x1003_1 x1004_1 s0_5 s0_6 s0_7 s0_8 s0_9 s0_10) ∧ Aside0 (KeepBut w w' g none) ∧ Aside0 (Below w0.heap.size w0 w'))
 case atStart => exact ⟨(([] : List Int)), (wrap64 (a1 + 1)), (a1), (1), ((⟨#[]⟩ : ByteArray)), (a1), (by first | rfl | (simp; done) | (simp [*]; done)), H', ⟨Nat.le_refl _⟩, ⟨by first | exact Kd.R_nil _ _ _ _ _ | exact Kd.N_nil _ _ _ _ _ | exact Kd.V_nil _ _ _ _ _ | exact Kd.Q_nil _ _ _ _ _ | exact Kd.S_nil _ _ _ _ _⟩, ⟨by repeat (first | (with_reducible first | exact HI0.out | apply IsS60.alloc | apply IsS60.drewN | apply IsS60.drew | apply IsS60.set_0 | apply IsS60.set_1 | apply IsS60.set_2 | apply IsS60.set_3 | apply IsS60.set_4 | apply IsS60.set_6 | apply IsS60.set_8 | apply IsS60.set_9 | apply IsS60.set_10) | exact HI0.out)⟩, ⟨by repeat (first | (with_reducible first | exact HK.out | apply KeepBut.set_ | apply keep_drewN | apply keep_drew | apply keep_alloc) | exact HK.out)⟩, ⟨by repeat (first | (with_reducible first | exact HB.out | apply below_alloc | apply pw_below_drewN | apply below_drew1 | refine below_set ?_ (IsS60.ge HI0.out)) | exact HB.out)⟩⟩
 case round =>
  clear H'
  try clear hcz3_0
  try clear hcz3_1
  try clear hcz3_10
  try clear hcz3_2
  try clear hcz3_3
  try clear hcz3_4
  try clear hcz3_5
  try clear hcz3_6
  try clear hcz3_7
  try clear hcz3_8
  try clear hcz3_9
  try clear hfz3_0
  try clear hfz3_1
  try clear hfz3_10
  try clear hfz3_2
  try clear hfz3_3
  try clear hfz3_4
  try clear hfz3_6
  try clear hfz3_8
  try clear hfz3_9
  obtain ⟨x4_1, x5_1, x1001_1, x1002_1, x1003_1, x1004_1, rfl, HA, HK1, HO_4, HI0, HK, HB⟩ := hrel
  cases gk with
  | zero => exact absurd HA.out (by simp [query_reader_quoted.l0])
  | succ k1 =>
   have H := HA.out
   clear HA
   simp only [query_reader_quoted.l0] at H
   by_cases c4 : x5_1 < (s0_0.size : Int)
   ·
    rw [if_pos c4] at H
    have c4b0 : decide (x5_1 < (s0_0.size : Int)) = true := decide_eq_true c4
    clear c4
    by_cases c5 : 0 ≤ x5_1
    ·
     rw [if_pos c5] at H
     have c5b0 : decide (0 ≤ x5_1) = true := decide_eq_true c5
     clear c5
     by_cases c7 : (bt s0_0 x5_1) = 34
     ·
      rw [if_pos c7] at H
      have c7b0 : ((bt s0_0 x5_1) == 34) = true := beq_iff_eq.mpr c7
      have c7b1 : ((bt s0_0 x5_1) != 34) = false := bne_eq_false_iff_eq.mpr c7
      clear c7
      simp only [Option.some.injEq, Prod.mk.injEq] at H
      obtain ⟨rfl, rfl, rfl, rfl, rfl, rfl, rfl, rfl, rfl⟩ := H
      obtain ⟨HGz8, hgz8⟩ := HI0.out
      have hcz8_0 := cellS60_0 HGz8
      have hcz8_1 := cellS60_1 HGz8
      have hcz8_2 := cellS60_2 HGz8
      have hcz8_3 := cellS60_3 HGz8
      have hcz8_4 := cellS60_4 HGz8
      have hcz8_5 := cellS60_5 HGz8
      have hcz8_6 := cellS60_6 HGz8
      have hcz8_7 := cellS60_7 HGz8
      have hcz8_8 := cellS60_8 HGz8
      have hcz8_9 := cellS60_9 HGz8
      have hcz8_10 := cellS60_10 HGz8
      have hfz8_0 := blk_frozen HGz8 0
      have hfz8_1 := blk_frozen HGz8 1
      have hfz8_2 := blk_frozen HGz8 2
      have hfz8_3 := blk_frozen HGz8 3
      have hfz8_4 := blk_frozen HGz8 4
      have hfz8_6 := blk_frozen HGz8 6
      have hfz8_8 := blk_frozen HGz8 8
      have hfz8_9 := blk_frozen HGz8 9
      have hfz8_10 := blk_frozen HGz8 10
      clear HGz8 hgz8
      have p6 : 0 ≤ (x5_1 : Int) := of_decide_eq_true (by first | (with_reducible assumption) | assumption)
      have q6 : x5_1 < (s0_0.size : Int) := of_decide_eq_true (by first | (with_reducible assumption) | assumption)
      have hx6 := bt_at s0_0 x5_1
      replace p6 := eq_true p6
      replace q6 := eq_true q6
      have hcv9 := own_string (P := Tryz.prog) Tryz.underlying95 Tryz.underlying5 Tryz.underlying9 (Kd.own_of_R HO_4.out)
      go_wp2
      first | go_end0 | ((try simp only [Exit.inBlock, Exit.then]); refine bodyPost_ret (results_none rfl _ _ _) rfl ?_)
      exact ⟨by first | rfl | (simp [errW_none, errW_some] <;> rfl) | (simp [*, errW_none, errW_some] <;> rfl), by repeat (first | (with_reducible first | exact HI0.out | apply IsS60.alloc | apply IsS60.drewN | apply IsS60.drew | apply IsS60.set_0 | apply IsS60.set_1 | apply IsS60.set_2 | apply IsS60.set_3 | apply IsS60.set_4 | apply IsS60.set_6 | apply IsS60.set_8 | apply IsS60.set_9 | apply IsS60.set_10) | exact HI0.out), by repeat (first | (with_reducible first | exact HB.out | apply below_alloc | apply pw_below_drewN | apply below_drew1 | refine below_set ?_ (IsS60.ge HI0.out)) | exact HB.out), by repeat (first | (with_reducible first | exact HK.out | apply KeepBut.set_ | apply keep_drewN | apply keep_drew | apply keep_alloc) | exact HK.out)⟩
     ·
      rw [if_neg c7] at H
      have c7b0 : ((bt s0_0 x5_1) == 34) = false := beq_eq_false_iff_ne.mpr c7
      have c7b1 : ((bt s0_0 x5_1) != 34) = true := bne_iff_ne.mpr c7
      by_cases c10 : (bt s0_0 x5_1) = 92
      ·
       rw [if_pos c10] at H
       have c10b0 : ((bt s0_0 x5_1) == 92) = true := beq_iff_eq.mpr c10
       have c10b1 : ((bt s0_0 x5_1) != 92) = false := bne_eq_false_iff_eq.mpr c10
       clear c10
       by_cases c11 : (wrap64 (x5_1 + 1)) = (s0_0.size : Int)
       ·
        rw [if_pos c11] at H
        have c11b0 : ((wrap64 (x5_1 + 1)) == (s0_0.size : Int)) = true := beq_iff_eq.mpr c11
        have c11b1 : ((wrap64 (x5_1 + 1)) != (s0_0.size : Int)) = false := bne_eq_false_iff_eq.mpr c11
        clear c11
        simp only [Option.some.injEq, Prod.mk.injEq] at H
        obtain ⟨rfl, rfl, rfl, rfl, rfl, rfl, rfl, rfl, rfl⟩ := H
        obtain ⟨HGz12, hgz12⟩ := HI0.out
        have hcz12_0 := cellS60_0 HGz12
        have hcz12_1 := cellS60_1 HGz12
        have hcz12_2 := cellS60_2 HGz12
        have hcz12_3 := cellS60_3 HGz12
        have hcz12_4 := cellS60_4 HGz12
        have hcz12_5 := cellS60_5 HGz12
        have hcz12_6 := cellS60_6 HGz12
        have hcz12_7 := cellS60_7 HGz12
        have hcz12_8 := cellS60_8 HGz12
        have hcz12_9 := cellS60_9 HGz12
        have hcz12_10 := cellS60_10 HGz12
        have hfz12_0 := blk_frozen HGz12 0
        have hfz12_1 := blk_frozen HGz12 1
        have hfz12_2 := blk_frozen HGz12 2
        have hfz12_3 := blk_frozen HGz12 3
        have hfz12_4 := blk_frozen HGz12 4
        have hfz12_6 := blk_frozen HGz12 6
        have hfz12_8 := blk_frozen HGz12 8
        have hfz12_9 := blk_frozen HGz12 9
        have hfz12_10 := blk_frozen HGz12 10
        clear HGz12 hgz12
        have p6 : 0 ≤ (x5_1 : Int) := of_decide_eq_true (by first | (with_reducible assumption) | assumption)
        have q6 : x5_1 < (s0_0.size : Int) := of_decide_eq_true (by first | (with_reducible assumption) | assumption)
        have hx6 := bt_at s0_0 x5_1
        replace p6 := eq_true p6
        replace q6 := eq_true q6
        go_wp2
        first | go_end0 | ((try simp only [Exit.inBlock, Exit.then]); refine bodyPost_ret (results_none rfl _ _ _) rfl ?_)
        exact ⟨by first | rfl | (simp [errW_none, errW_some] <;> rfl) | (simp [*, errW_none, errW_some] <;> rfl), by repeat (first | (with_reducible first | exact HI0.out | apply IsS60.alloc | apply IsS60.drewN | apply IsS60.drew | apply IsS60.set_0 | apply IsS60.set_1 | apply IsS60.set_2 | apply IsS60.set_3 | apply IsS60.set_4 | apply IsS60.set_6 | apply IsS60.set_8 | apply IsS60.set_9 | apply IsS60.set_10) | exact HI0.out), by repeat (first | (with_reducible first | exact HB.out | apply below_alloc | apply pw_below_drewN | apply below_drew1 | refine below_set ?_ (IsS60.ge HI0.out)) | exact HB.out), by repeat (first | (with_reducible first | exact HK.out | apply KeepBut.set_ | apply keep_drewN | apply keep_drew | apply keep_alloc) | exact HK.out)⟩
       ·
        rw [if_neg c11] at H
        have c11b0 : ((wrap64 (x5_1 + 1)) == (s0_0.size : Int)) = false := beq_eq_false_iff_ne.mpr c11
        have c11b1 : ((wrap64 (x5_1 + 1)) != (s0_0.size : Int)) = true := bne_iff_ne.mpr c11
        obtain ⟨ji13, hji13⟩ : ∃ j_ : Int, (wrap64 (x5_1 + 1)) = j_ := ⟨_, rfl⟩
        replace H : (if 0 ≤ (ji13) then (if (ji13) < (s0_0.size : Int) then (if (bt s0_0 (ji13)) = 34 then (if x4_1.length < 140737488355328 then (query_reader_quoted.l0 k1 a1 (x4_1 ++ [bt s0_0 (ji13)]) (wrap64 ((ji13) + 1)) s0_0 x1001_1 x1002_1 x1003_1 x1004_1 s0_5 s0_6 s0_7 s0_8 s0_9 s0_10) else (none)) else (if (bt s0_0 (ji13)) = 92 then (if x4_1.length < 140737488355328 then (query_reader_quoted.l0 k1 a1 (x4_1 ++ [bt s0_0 (ji13)]) (wrap64 ((ji13) + 1)) s0_0 x1001_1 x1002_1 x1003_1 x1004_1 s0_5 s0_6 s0_7 s0_8 s0_9 s0_10) else (none)) else (some (s0_0, x1001_1, x1002_1, x1003_1, x1004_1, s0_6, s0_8, s0_9, s0_10)))) else (none)) else (none)) = some (r1, r2, r3, r4, r5, r6, r7, r8, r9) := by first | (rw [hji13] at H; exact H) | (simp only [hji13] at H ⊢; exact H)
        (try rw [hji13] at c11b0)
        (try rw [hji13] at c11b1)
        have hji13w : (IntKind.i64.wrap (x5_1 + 1)) = ji13 := (i64_w _).trans hji13
        by_cases c14 : 0 ≤ (ji13)
        ·
         rw [if_pos c14] at H
         have c14b0 : decide (0 ≤ (ji13)) = true := decide_eq_true c14
         clear c14
         by_cases c15 : (ji13) < (s0_0.size : Int)
         ·
          rw [if_pos c15] at H
          have c15b0 : decide ((ji13) < (s0_0.size : Int)) = true := decide_eq_true c15
          clear c15
          by_cases c17 : (bt s0_0 (ji13)) = 34
          ·
           rw [if_pos c17] at H
           have c17b0 : ((bt s0_0 (ji13)) == 34) = true := beq_iff_eq.mpr c17
           have c17b1 : ((bt s0_0 (ji13)) != 34) = false := bne_eq_false_iff_eq.mpr c17
           clear c17
           by_cases c19 : x4_1.length < 140737488355328
           ·
            rw [if_pos c19] at H
            have LMc19 := Aside0.mk c19
            clear c19
            obtain ⟨y141, hy141⟩ : ∃ y_ : List Int, y_ = (x4_1 ++ [bt s0_0 (ji13)]) := ⟨_, rfl⟩
            replace H : (query_reader_quoted.l0 k1 a1 y141 (wrap64 ((ji13) + 1)) s0_0 x1001_1 x1002_1 x1003_1 x1004_1 s0_5 s0_6 s0_7 s0_8 s0_9 s0_10) = some (r1, r2, r3, r4, r5, r6, r7, r8, r9) := by first | (rw [hy141]; with_reducible exact H) | (have H2_ := (Option.bind_some _ _).symm.trans H; rw [hy141]; with_reducible exact H2_) | (have H2_ := (Option.bind_some _ _).symm.trans H; with_reducible exact H2_) | with_reducible exact H | (rw [hy141]; exact H) | exact H
            have Ny141 := Aside0.mk hy141
            clear hy141
            have H' := Aside0.mk H
            clear H
            obtain ⟨HGz20, hgz20⟩ := HI0.out
            have hcz20_0 := cellS60_0 HGz20
            have hcz20_1 := cellS60_1 HGz20
            have hcz20_2 := cellS60_2 HGz20
            have hcz20_3 := cellS60_3 HGz20
            have hcz20_4 := cellS60_4 HGz20
            have hcz20_5 := cellS60_5 HGz20
            have hcz20_6 := cellS60_6 HGz20
            have hcz20_7 := cellS60_7 HGz20
            have hcz20_8 := cellS60_8 HGz20
            have hcz20_9 := cellS60_9 HGz20
            have hcz20_10 := cellS60_10 HGz20
            have hfz20_0 := blk_frozen HGz20 0
            have hfz20_1 := blk_frozen HGz20 1
            have hfz20_2 := blk_frozen HGz20 2
            have hfz20_3 := blk_frozen HGz20 3
            have hfz20_4 := blk_frozen HGz20 4
            have hfz20_6 := blk_frozen HGz20 6
            have hfz20_8 := blk_frozen HGz20 8
            have hfz20_9 := blk_frozen HGz20 9
            have hfz20_10 := blk_frozen HGz20 10
            clear HGz20 hgz20
            have p6 : 0 ≤ (x5_1 : Int) := of_decide_eq_true (by first | (with_reducible assumption) | assumption)
            have q6 : x5_1 < (s0_0.size : Int) := of_decide_eq_true (by first | (with_reducible assumption) | assumption)
            have hx6 := bt_at s0_0 x5_1
            replace p6 := eq_true p6
            replace q6 := eq_true q6
            have p16 : 0 ≤ ((ji13) : Int) := of_decide_eq_true (by first | (with_reducible assumption) | assumption)
            have q16 : (ji13) < (s0_0.size : Int) := of_decide_eq_true (by first | (with_reducible assumption) | assumption)
            have hx16 := bt_at s0_0 (ji13)
            replace p16 := eq_true p16
            replace q16 := eq_true q16
            have p18 : 0 ≤ ((ji13) : Int) := of_decide_eq_true (by first | (with_reducible assumption) | assumption)
            have q18 : (ji13) < (s0_0.size : Int) := of_decide_eq_true (by first | (with_reducible assumption) | assumption)
            have hx18 := bt_at s0_0 (ji13)
            replace p18 := eq_true p18
            replace q18 := eq_true q18
            go_wp2_with (first | ((with_reducible refine gate_builtin (b := .append) (xs := #[.tmp 81, .tmp 88]) rfl ?_); at_builtin; refine Kd.R_append (Kd.int .u8) w.heap.size rfl (.tmp 81) (.tmp 88) 95 5 (.int .u8 0) 1 rfl Tryz.underlying95 info5 rfl (by decide) (by omega) u4 x4_1 (bt s0_0 (ji13)) [.int .u8 (bt s0_0 (ji13))] (fun _ => True) (fun _ => False) rfl rfl ?aP (fun _ hk => hk.elim) ?aF ?aO (Below.refl _ _) ?aS ?aL ?_; (case aP => exact rfl); (case aF => exact (fun _ _ => trivial)); (case aO => exact (by (with_reducible repeat (first | apply Kd.R_alloc | apply Kd.R_drewN | apply Kd.R_drew)); exact HO_4.out)); (case aS => exact (keep_size (w := w) (g := g) (row := none) (by repeat (first | (with_reducible first | exact HK.out | apply KeepBut.set_ | apply keep_drewN | apply keep_drew | apply keep_alloc) | exact HK.out)))); (case aL => have := LMc19.out; omega); intro v142 w21 ho hb hg hat; rw [← Ny141.out] at ho; have n0_ := Aside0.mk (IsS60.grown (by repeat (first | (with_reducible first | exact HI0.out | apply IsS60.alloc | apply IsS60.drewN | apply IsS60.drew | apply IsS60.set_0 | apply IsS60.set_1 | apply IsS60.set_2 | apply IsS60.set_3 | apply IsS60.set_4 | apply IsS60.set_6 | apply IsS60.set_8 | apply IsS60.set_9 | apply IsS60.set_10) | exact HI0.out)) hg (IsS60.own_ne HI0.out HO_4.out (by decide))); have n1_ := Aside0.mk (below_weaken (by repeat (first | (with_reducible first | exact HB.out | apply below_alloc | apply pw_below_drewN | apply below_drew1 | refine below_set ?_ (IsS60.ge HI0.out)) | exact HB.out)) HL.out hb); have n2_ := Aside0.mk (KeepBut.trans (by repeat (first | (with_reducible first | exact HK.out | apply KeepBut.set_ | apply keep_drewN | apply keep_drew | apply keep_alloc) | exact HK.out)) (KeepBut.of_grown hg g) (Kd.R_base2 HO_4.out)); have n3_ := Aside0.mk (ho); clear HI0; clear HB; clear HK; clear HO_4; have HI0 := n0_; have HB := n1_; have HK := n2_; have HO143 := n3_; clear n0_ n1_ n2_ n3_; clear ho hb hg hat))
            go_roundg k1
            case measure => have := HK1.out; omega
            case rel => exact ⟨(y141), (wrap64 ((ji13) + 1)), (x1001_1), (x1002_1), (x1003_1), (x1004_1), (by first | rfl | (simp; done) | (simp only [← hji13] <;> (first | rfl | simp)) | (simp [*]; done)), H', ⟨by have := HK1.out; omega⟩, ⟨by (with_reducible repeat (first | apply Kd.R_alloc | apply Kd.R_drewN | apply Kd.R_drew)); exact HO143.out⟩, ⟨by repeat (first | (with_reducible first | exact HI0.out | apply IsS60.alloc | apply IsS60.drewN | apply IsS60.drew | apply IsS60.set_0 | apply IsS60.set_1 | apply IsS60.set_2 | apply IsS60.set_3 | apply IsS60.set_4 | apply IsS60.set_6 | apply IsS60.set_8 | apply IsS60.set_9 | apply IsS60.set_10) | exact HI0.out)⟩, ⟨by repeat (first | (with_reducible first | exact HK.out | apply KeepBut.set_ | apply keep_drewN | apply keep_drew | apply keep_alloc) | exact HK.out)⟩, ⟨by repeat (first | (with_reducible first | exact HB.out | apply below_alloc | apply pw_below_drewN | apply below_drew1 | refine below_set ?_ (IsS60.ge HI0.out)) | exact HB.out)⟩⟩
           ·
            rw [if_neg c19] at H
            exact absurd H (by simp)
          ·
           rw [if_neg c17] at H
           have c17b0 : ((bt s0_0 (ji13)) == 34) = false := beq_eq_false_iff_ne.mpr c17
           have c17b1 : ((bt s0_0 (ji13)) != 34) = true := bne_iff_ne.mpr c17
           by_cases c23 : (bt s0_0 (ji13)) = 92
           ·
            rw [if_pos c23] at H
            have c23b0 : ((bt s0_0 (ji13)) == 92) = true := beq_iff_eq.mpr c23
            have c23b1 : ((bt s0_0 (ji13)) != 92) = false := bne_eq_false_iff_eq.mpr c23
            clear c23
            by_cases c25 : x4_1.length < 140737488355328
            ·
             rw [if_pos c25] at H
             have LMc25 := Aside0.mk c25
             clear c25
             obtain ⟨y144, hy144⟩ : ∃ y_ : List Int, y_ = (x4_1 ++ [bt s0_0 (ji13)]) := ⟨_, rfl⟩
             replace H : (query_reader_quoted.l0 k1 a1 y144 (wrap64 ((ji13) + 1)) s0_0 x1001_1 x1002_1 x1003_1 x1004_1 s0_5 s0_6 s0_7 s0_8 s0_9 s0_10) = some (r1, r2, r3, r4, r5, r6, r7, r8, r9) := by first | (rw [hy144]; with_reducible exact H) | (have H2_ := (Option.bind_some _ _).symm.trans H; rw [hy144]; with_reducible exact H2_) | (have H2_ := (Option.bind_some _ _).symm.trans H; with_reducible exact H2_) | with_reducible exact H | (rw [hy144]; exact H) | exact H
             have Ny144 := Aside0.mk hy144
             clear hy144
             have H' := Aside0.mk H
             clear H
             obtain ⟨HGz26, hgz26⟩ := HI0.out
             have hcz26_0 := cellS60_0 HGz26
             have hcz26_1 := cellS60_1 HGz26
             have hcz26_2 := cellS60_2 HGz26
             have hcz26_3 := cellS60_3 HGz26
             have hcz26_4 := cellS60_4 HGz26
             have hcz26_5 := cellS60_5 HGz26
             have hcz26_6 := cellS60_6 HGz26
             have hcz26_7 := cellS60_7 HGz26
             have hcz26_8 := cellS60_8 HGz26
             have hcz26_9 := cellS60_9 HGz26
             have hcz26_10 := cellS60_10 HGz26
             have hfz26_0 := blk_frozen HGz26 0
             have hfz26_1 := blk_frozen HGz26 1
             have hfz26_2 := blk_frozen HGz26 2
             have hfz26_3 := blk_frozen HGz26 3
             have hfz26_4 := blk_frozen HGz26 4
             have hfz26_6 := blk_frozen HGz26 6
             have hfz26_8 := blk_frozen HGz26 8
             have hfz26_9 := blk_frozen HGz26 9
             have hfz26_10 := blk_frozen HGz26 10
             clear HGz26 hgz26
             have p6 : 0 ≤ (x5_1 : Int) := of_decide_eq_true (by first | (with_reducible assumption) | assumption)
             have q6 : x5_1 < (s0_0.size : Int) := of_decide_eq_true (by first | (with_reducible assumption) | assumption)
             have hx6 := bt_at s0_0 x5_1
             replace p6 := eq_true p6
             replace q6 := eq_true q6
             have p16 : 0 ≤ ((ji13) : Int) := of_decide_eq_true (by first | (with_reducible assumption) | assumption)
             have q16 : (ji13) < (s0_0.size : Int) := of_decide_eq_true (by first | (with_reducible assumption) | assumption)
             have hx16 := bt_at s0_0 (ji13)
             replace p16 := eq_true p16
             replace q16 := eq_true q16
             have p22 : 0 ≤ ((ji13) : Int) := of_decide_eq_true (by first | (with_reducible assumption) | assumption)
             have q22 : (ji13) < (s0_0.size : Int) := of_decide_eq_true (by first | (with_reducible assumption) | assumption)
             have hx22 := bt_at s0_0 (ji13)
             replace p22 := eq_true p22
             replace q22 := eq_true q22
             have p24 : 0 ≤ ((ji13) : Int) := of_decide_eq_true (by first | (with_reducible assumption) | assumption)
             have q24 : (ji13) < (s0_0.size : Int) := of_decide_eq_true (by first | (with_reducible assumption) | assumption)
             have hx24 := bt_at s0_0 (ji13)
             replace p24 := eq_true p24
             replace q24 := eq_true q24
             go_wp2_with (first | ((with_reducible refine gate_builtin (b := .append) (xs := #[.tmp 81, .tmp 88]) rfl ?_); at_builtin; refine Kd.R_append (Kd.int .u8) w.heap.size rfl (.tmp 81) (.tmp 88) 95 5 (.int .u8 0) 1 rfl Tryz.underlying95 info5 rfl (by decide) (by omega) u4 x4_1 (bt s0_0 (ji13)) [.int .u8 (bt s0_0 (ji13))] (fun _ => True) (fun _ => False) rfl rfl ?aP (fun _ hk => hk.elim) ?aF ?aO (Below.refl _ _) ?aS ?aL ?_; (case aP => exact rfl); (case aF => exact (fun _ _ => trivial)); (case aO => exact (by (with_reducible repeat (first | apply Kd.R_alloc | apply Kd.R_drewN | apply Kd.R_drew)); exact HO_4.out)); (case aS => exact (keep_size (w := w) (g := g) (row := none) (by repeat (first | (with_reducible first | exact HK.out | apply KeepBut.set_ | apply keep_drewN | apply keep_drew | apply keep_alloc) | exact HK.out)))); (case aL => have := LMc25.out; omega); intro v145 w27 ho hb hg hat; rw [← Ny144.out] at ho; have n0_ := Aside0.mk (IsS60.grown (by repeat (first | (with_reducible first | exact HI0.out | apply IsS60.alloc | apply IsS60.drewN | apply IsS60.drew | apply IsS60.set_0 | apply IsS60.set_1 | apply IsS60.set_2 | apply IsS60.set_3 | apply IsS60.set_4 | apply IsS60.set_6 | apply IsS60.set_8 | apply IsS60.set_9 | apply IsS60.set_10) | exact HI0.out)) hg (IsS60.own_ne HI0.out HO_4.out (by decide))); have n1_ := Aside0.mk (below_weaken (by repeat (first | (with_reducible first | exact HB.out | apply below_alloc | apply pw_below_drewN | apply below_drew1 | refine below_set ?_ (IsS60.ge HI0.out)) | exact HB.out)) HL.out hb); have n2_ := Aside0.mk (KeepBut.trans (by repeat (first | (with_reducible first | exact HK.out | apply KeepBut.set_ | apply keep_drewN | apply keep_drew | apply keep_alloc) | exact HK.out)) (KeepBut.of_grown hg g) (Kd.R_base2 HO_4.out)); have n3_ := Aside0.mk (ho); clear HI0; clear HB; clear HK; clear HO_4; have HI0 := n0_; have HB := n1_; have HK := n2_; have HO146 := n3_; clear n0_ n1_ n2_ n3_; clear ho hb hg hat))
             go_roundg k1
             case measure => have := HK1.out; omega
             case rel => exact ⟨(y144), (wrap64 ((ji13) + 1)), (x1001_1), (x1002_1), (x1003_1), (x1004_1), (by first | rfl | (simp; done) | (simp only [← hji13] <;> (first | rfl | simp)) | (simp [*]; done)), H', ⟨by have := HK1.out; omega⟩, ⟨by (with_reducible repeat (first | apply Kd.R_alloc | apply Kd.R_drewN | apply Kd.R_drew)); exact HO146.out⟩, ⟨by repeat (first | (with_reducible first | exact HI0.out | apply IsS60.alloc | apply IsS60.drewN | apply IsS60.drew | apply IsS60.set_0 | apply IsS60.set_1 | apply IsS60.set_2 | apply IsS60.set_3 | apply IsS60.set_4 | apply IsS60.set_6 | apply IsS60.set_8 | apply IsS60.set_9 | apply IsS60.set_10) | exact HI0.out)⟩, ⟨by repeat (first | (with_reducible first | exact HK.out | apply KeepBut.set_ | apply keep_drewN | apply keep_drew | apply keep_alloc) | exact HK.out)⟩, ⟨by repeat (first | (with_reducible first | exact HB.out | apply below_alloc | apply pw_below_drewN | apply below_drew1 | refine below_set ?_ (IsS60.ge HI0.out)) | exact HB.out)⟩⟩
            ·
             rw [if_neg c25] at H
             exact absurd H (by simp)
           ·
            rw [if_neg c23] at H
            have c23b0 : ((bt s0_0 (ji13)) == 92) = false := beq_eq_false_iff_ne.mpr c23
            have c23b1 : ((bt s0_0 (ji13)) != 92) = true := bne_iff_ne.mpr c23
            simp only [Option.some.injEq, Prod.mk.injEq] at H
            obtain ⟨rfl, rfl, rfl, rfl, rfl, rfl, rfl, rfl, rfl⟩ := H
            obtain ⟨HGz28, hgz28⟩ := HI0.out
            have hcz28_0 := cellS60_0 HGz28
            have hcz28_1 := cellS60_1 HGz28
            have hcz28_2 := cellS60_2 HGz28
            have hcz28_3 := cellS60_3 HGz28
            have hcz28_4 := cellS60_4 HGz28
            have hcz28_5 := cellS60_5 HGz28
            have hcz28_6 := cellS60_6 HGz28
            have hcz28_7 := cellS60_7 HGz28
            have hcz28_8 := cellS60_8 HGz28
            have hcz28_9 := cellS60_9 HGz28
            have hcz28_10 := cellS60_10 HGz28
            have hfz28_0 := blk_frozen HGz28 0
            have hfz28_1 := blk_frozen HGz28 1
            have hfz28_2 := blk_frozen HGz28 2
            have hfz28_3 := blk_frozen HGz28 3
            have hfz28_4 := blk_frozen HGz28 4
            have hfz28_6 := blk_frozen HGz28 6
            have hfz28_8 := blk_frozen HGz28 8
            have hfz28_9 := blk_frozen HGz28 9
            have hfz28_10 := blk_frozen HGz28 10
            clear HGz28 hgz28
            have p6 : 0 ≤ (x5_1 : Int) := of_decide_eq_true (by first | (with_reducible assumption) | assumption)
            have q6 : x5_1 < (s0_0.size : Int) := of_decide_eq_true (by first | (with_reducible assumption) | assumption)
            have hx6 := bt_at s0_0 x5_1
            replace p6 := eq_true p6
            replace q6 := eq_true q6
            have p16 : 0 ≤ ((ji13) : Int) := of_decide_eq_true (by first | (with_reducible assumption) | assumption)
            have q16 : (ji13) < (s0_0.size : Int) := of_decide_eq_true (by first | (with_reducible assumption) | assumption)
            have hx16 := bt_at s0_0 (ji13)
            replace p16 := eq_true p16
            replace q16 := eq_true q16
            have p22 : 0 ≤ ((ji13) : Int) := of_decide_eq_true (by first | (with_reducible assumption) | assumption)
            have q22 : (ji13) < (s0_0.size : Int) := of_decide_eq_true (by first | (with_reducible assumption) | assumption)
            have hx22 := bt_at s0_0 (ji13)
            replace p22 := eq_true p22
            replace q22 := eq_true q22
            go_wp2
            first | go_end0 | ((try simp only [Exit.inBlock, Exit.then]); refine bodyPost_ret (results_none rfl _ _ _) rfl ?_)
            exact ⟨by first | rfl | (simp [errW_none, errW_some] <;> rfl) | (simp only [← hji13]; first | rfl | (simp [errW_none, errW_some] <;> rfl)) | (simp [*, errW_none, errW_some] <;> rfl), by repeat (first | (with_reducible first | exact HI0.out | apply IsS60.alloc | apply IsS60.drewN | apply IsS60.drew | apply IsS60.set_0 | apply IsS60.set_1 | apply IsS60.set_2 | apply IsS60.set_3 | apply IsS60.set_4 | apply IsS60.set_6 | apply IsS60.set_8 | apply IsS60.set_9 | apply IsS60.set_10) | exact HI0.out), by repeat (first | (with_reducible first | exact HB.out | apply below_alloc | apply pw_below_drewN | apply below_drew1 | refine below_set ?_ (IsS60.ge HI0.out)) | exact HB.out), by repeat (first | (with_reducible first | exact HK.out | apply KeepBut.set_ | apply keep_drewN | apply keep_drew | apply keep_alloc) | exact HK.out)⟩
         ·
          rw [if_neg c15] at H
          exact absurd H (by simp)
        ·
         rw [if_neg c14] at H
         exact absurd H (by simp)
      ·
       rw [if_neg c10] at H
       have c10b0 : ((bt s0_0 x5_1) == 92) = false := beq_eq_false_iff_ne.mpr c10
       have c10b1 : ((bt s0_0 x5_1) != 92) = true := bne_iff_ne.mpr c10
       by_cases c29 : x4_1.length < 140737488355328
       ·
        rw [if_pos c29] at H
        have LMc29 := Aside0.mk c29
        clear c29
        obtain ⟨y147, hy147⟩ : ∃ y_ : List Int, y_ = (x4_1 ++ [bt s0_0 x5_1]) := ⟨_, rfl⟩
        replace H : (query_reader_quoted.l0 k1 a1 y147 (wrap64 (x5_1 + 1)) s0_0 x1001_1 x1002_1 x1003_1 x1004_1 s0_5 s0_6 s0_7 s0_8 s0_9 s0_10) = some (r1, r2, r3, r4, r5, r6, r7, r8, r9) := by first | (rw [hy147]; with_reducible exact H) | (have H2_ := (Option.bind_some _ _).symm.trans H; rw [hy147]; with_reducible exact H2_) | (have H2_ := (Option.bind_some _ _).symm.trans H; with_reducible exact H2_) | with_reducible exact H | (rw [hy147]; exact H) | exact H
        have Ny147 := Aside0.mk hy147
        clear hy147
        have H' := Aside0.mk H
        clear H
        obtain ⟨HGz30, hgz30⟩ := HI0.out
        have hcz30_0 := cellS60_0 HGz30
        have hcz30_1 := cellS60_1 HGz30
        have hcz30_2 := cellS60_2 HGz30
        have hcz30_3 := cellS60_3 HGz30
        have hcz30_4 := cellS60_4 HGz30
        have hcz30_5 := cellS60_5 HGz30
        have hcz30_6 := cellS60_6 HGz30
        have hcz30_7 := cellS60_7 HGz30
        have hcz30_8 := cellS60_8 HGz30
        have hcz30_9 := cellS60_9 HGz30
        have hcz30_10 := cellS60_10 HGz30
        have hfz30_0 := blk_frozen HGz30 0
        have hfz30_1 := blk_frozen HGz30 1
        have hfz30_2 := blk_frozen HGz30 2
        have hfz30_3 := blk_frozen HGz30 3
        have hfz30_4 := blk_frozen HGz30 4
        have hfz30_6 := blk_frozen HGz30 6
        have hfz30_8 := blk_frozen HGz30 8
        have hfz30_9 := blk_frozen HGz30 9
        have hfz30_10 := blk_frozen HGz30 10
        clear HGz30 hgz30
        have p6 : 0 ≤ (x5_1 : Int) := of_decide_eq_true (by first | (with_reducible assumption) | assumption)
        have q6 : x5_1 < (s0_0.size : Int) := of_decide_eq_true (by first | (with_reducible assumption) | assumption)
        have hx6 := bt_at s0_0 x5_1
        replace p6 := eq_true p6
        replace q6 := eq_true q6
        go_wp2_with (first | ((with_reducible refine gate_builtin (b := .append) (xs := #[.tmp 34, .tmp 36]) rfl ?_); at_builtin; refine Kd.R_append (Kd.int .u8) w.heap.size rfl (.tmp 34) (.tmp 36) 95 5 (.int .u8 0) 1 rfl Tryz.underlying95 info5 rfl (by decide) (by omega) u4 x4_1 (bt s0_0 x5_1) [.int .u8 (bt s0_0 x5_1)] (fun _ => True) (fun _ => False) rfl rfl ?aP (fun _ hk => hk.elim) ?aF ?aO (Below.refl _ _) ?aS ?aL ?_; (case aP => exact rfl); (case aF => exact (fun _ _ => trivial)); (case aO => exact (by (with_reducible repeat (first | apply Kd.R_alloc | apply Kd.R_drewN | apply Kd.R_drew)); exact HO_4.out)); (case aS => exact (keep_size (w := w) (g := g) (row := none) (by repeat (first | (with_reducible first | exact HK.out | apply KeepBut.set_ | apply keep_drewN | apply keep_drew | apply keep_alloc) | exact HK.out)))); (case aL => have := LMc29.out; omega); intro v148 w31 ho hb hg hat; rw [← Ny147.out] at ho; have n0_ := Aside0.mk (IsS60.grown (by repeat (first | (with_reducible first | exact HI0.out | apply IsS60.alloc | apply IsS60.drewN | apply IsS60.drew | apply IsS60.set_0 | apply IsS60.set_1 | apply IsS60.set_2 | apply IsS60.set_3 | apply IsS60.set_4 | apply IsS60.set_6 | apply IsS60.set_8 | apply IsS60.set_9 | apply IsS60.set_10) | exact HI0.out)) hg (IsS60.own_ne HI0.out HO_4.out (by decide))); have n1_ := Aside0.mk (below_weaken (by repeat (first | (with_reducible first | exact HB.out | apply below_alloc | apply pw_below_drewN | apply below_drew1 | refine below_set ?_ (IsS60.ge HI0.out)) | exact HB.out)) HL.out hb); have n2_ := Aside0.mk (KeepBut.trans (by repeat (first | (with_reducible first | exact HK.out | apply KeepBut.set_ | apply keep_drewN | apply keep_drew | apply keep_alloc) | exact HK.out)) (KeepBut.of_grown hg g) (Kd.R_base2 HO_4.out)); have n3_ := Aside0.mk (ho); clear HI0; clear HB; clear HK; clear HO_4; have HI0 := n0_; have HB := n1_; have HK := n2_; have HO149 := n3_; clear n0_ n1_ n2_ n3_; clear ho hb hg hat))
        go_roundg k1
        case measure => have := HK1.out; omega
        case rel => exact ⟨(y147), (wrap64 (x5_1 + 1)), (x1001_1), (x1002_1), (x1003_1), (x1004_1), (by first | rfl | (simp; done) | (simp [*]; done)), H', ⟨by have := HK1.out; omega⟩, ⟨by (with_reducible repeat (first | apply Kd.R_alloc | apply Kd.R_drewN | apply Kd.R_drew)); exact HO149.out⟩, ⟨by repeat (first | (with_reducible first | exact HI0.out | apply IsS60.alloc | apply IsS60.drewN | apply IsS60.drew | apply IsS60.set_0 | apply IsS60.set_1 | apply IsS60.set_2 | apply IsS60.set_3 | apply IsS60.set_4 | apply IsS60.set_6 | apply IsS60.set_8 | apply IsS60.set_9 | apply IsS60.set_10) | exact HI0.out)⟩, ⟨by repeat (first | (with_reducible first | exact HK.out | apply KeepBut.set_ | apply keep_drewN | apply keep_drew | apply keep_alloc) | exact HK.out)⟩, ⟨by repeat (first | (with_reducible first | exact HB.out | apply below_alloc | apply pw_below_drewN | apply below_drew1 | refine below_set ?_ (IsS60.ge HI0.out)) | exact HB.out)⟩⟩
       ·
        rw [if_neg c29] at H
        exact absurd H (by simp)
    ·
     rw [if_neg c5] at H
     exact absurd H (by simp)
   ·
    rw [if_neg c4] at H
    have c4b0 : decide (x5_1 < (s0_0.size : Int)) = false := decide_eq_false c4
    clear c4
    simp only [Option.some.injEq, Prod.mk.injEq] at H
    obtain ⟨rfl, rfl, rfl, rfl, rfl, rfl, rfl, rfl, rfl⟩ := H
    obtain ⟨HGz32, hgz32⟩ := HI0.out
    have hcz32_0 := cellS60_0 HGz32
    have hcz32_1 := cellS60_1 HGz32
    have hcz32_2 := cellS60_2 HGz32
    have hcz32_3 := cellS60_3 HGz32
    have hcz32_4 := cellS60_4 HGz32
    have hcz32_5 := cellS60_5 HGz32
    have hcz32_6 := cellS60_6 HGz32
    have hcz32_7 := cellS60_7 HGz32
    have hcz32_8 := cellS60_8 HGz32
    have hcz32_9 := cellS60_9 HGz32
    have hcz32_10 := cellS60_10 HGz32
    have hfz32_0 := blk_frozen HGz32 0
    have hfz32_1 := blk_frozen HGz32 1
    have hfz32_2 := blk_frozen HGz32 2
    have hfz32_3 := blk_frozen HGz32 3
    have hfz32_4 := blk_frozen HGz32 4
    have hfz32_6 := blk_frozen HGz32 6
    have hfz32_8 := blk_frozen HGz32 8
    have hfz32_9 := blk_frozen HGz32 9
    have hfz32_10 := blk_frozen HGz32 10
    clear HGz32 hgz32
    go_wp2
    first | go_end0 | ((try simp only [Exit.inBlock, Exit.then]); refine bodyPost_ret (results_none rfl _ _ _) rfl ?_)
    exact ⟨by first | rfl | (simp [errW_none, errW_some] <;> rfl) | (simp [*, errW_none, errW_some] <;> rfl), by repeat (first | (with_reducible first | exact HI0.out | apply IsS60.alloc | apply IsS60.drewN | apply IsS60.drew | apply IsS60.set_0 | apply IsS60.set_1 | apply IsS60.set_2 | apply IsS60.set_3 | apply IsS60.set_4 | apply IsS60.set_6 | apply IsS60.set_8 | apply IsS60.set_9 | apply IsS60.set_10) | exact HI0.out), by repeat (first | (with_reducible first | exact HB.out | apply below_alloc | apply pw_below_drewN | apply below_drew1 | refine below_set ?_ (IsS60.ge HI0.out)) | exact HB.out), by repeat (first | (with_reducible first | exact HK.out | apply KeepBut.set_ | apply keep_drewN | apply keep_drew | apply keep_alloc) | exact HK.out)⟩
end Go.Proofs.YthhemephaabblaaGreatDoor.Q
