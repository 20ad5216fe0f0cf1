/- mac.block: a secret's block. And the plain code (HMAC over SHA-256). -/
import Derived.Test.YtnkhhnfmijljbaaDoorOwn
import Derived.Laws.IdiomCopy
set_option linter.unusedVariables false
set_option linter.unusedSimpArgs false
namespace Go.Proofs.YtnkhhnfmijljbaaDoor.Spec
/-- a secret's block -/
def key (s : List UInt8) : List UInt8 := (if 64 < s.length then digest s else s) ++ List.replicate (64 - (if 64 < s.length then digest s else s).length) 0
def xorL (x : UInt8) (l : List UInt8) : List UInt8 := l.map (· ^^^ x)
/-- the code of a message under a secret -/
def code (s m : List UInt8) : List UInt8 := digest (xorL 0x5c (key s) ++ digest (xorL 0x36 (key s) ++ m))
theorem key_length (s : List UInt8) : (key s).length = 64 := by
  unfold key
  by_cases h : 64 < s.length
  · simp [h, digest_length]
  · simp [h]; omega
theorem xorL_length (x : UInt8) (l : List UInt8) : (xorL x l).length = l.length := by simp [xorL]
theorem code_length (s m : List UInt8) : (code s m).length = 32 := digest_length _
end Go.Proofs.YtnkhhnfmijljbaaDoor.Spec
namespace Go.Proofs.YtnkhhnfmijljbaaDoor
open Go.RowKit Go.Proofs.YtnkhhnfmijljbaaDoorW.PrintWords Go.Proofs.YtnkhhnfmijljbaaDoorW.PrintLast Go.Proofs.YtnkhhnfmijljbaaDoorW.PrintMore
open Extern.Stop (cell)

/-- bytes copied to the head of a block of bytes -/
theorem run_copy_into (w : World) (ty : TypeId) (g : Nat) (ys : List UInt8) (t : TypeId) (N c : Nat) (A : Option Addr) (c' : Nat) (xs : List UInt8) (hR : Row w g (ys.map cell) t) (hN : N = ys.length) (hB : Bs w A xs.length xs) (hle : xs.length ≤ ys.length) :
    ∃ k w', (Builtin.copy_ #[24, 24] ty #[.slice (some ⟨g, 0, none⟩) N c, .slice A xs.length c']).run Tryd.prog w = .ok k w' ∧ Only w g w' ∧ Row w' g ((xs ++ ys.drop xs.length).map cell) t := by
  subst hN
  have hmin : Nat.min xs.length ys.length = xs.length := Nat.min_eq_left hle
  rcases Nat.eq_zero_or_pos xs.length with h0 | h0
  · obtain rfl : xs = [] := List.eq_nil_of_length_eq_zero h0
    exact ⟨_, w, run_copy_none w 24 24 ty 5 _ A _ _ _ _ Tryd.underlying24 (by kernel_rfl) (by rw [hmin]; rfl), Only.refl w g, by simpa using hR⟩
  · obtain ⟨ad, rfl, _⟩ := hB.cells h0
    have hr := run_copy_row (P := Tryd.prog) w 24 24 ty 5 g 0 ys.length c ad xs.length c' (ys.map cell).toArray t (xs.map cell) Tryd.underlying24 (by kernel_rfl) hR (by rw [List.length_map, hmin]) (cells_of_bs hB) (by simpa using hle)
      (by intro v hv; obtain ⟨y, _, rfl⟩ := List.mem_map.1 hv; rfl)
    refine ⟨_, _, hr, (Only.refl w g).setRow _, ?_⟩
    have h := Row.setRow (L' := (xs ++ ys.drop xs.length).map cell) hR
    simp only [Nat.zero_add, List.take_zero, List.nil_append, List.length_map, ← List.map_drop, ← List.map_append]
    exact h
theorem wpL_copy {ops : Array Oper} {rest : List Oper} {a : Act} {Q : Exit → Act → World → Prop} {dst : Option Tmp} {ty : TypeId} {pos : String} {after : Array Edge} {w : World} {d s : Operand} {F : Value → World → Prop}
    (h : ∃ v w1, (Builtin.copy_ #[24, 24] ty #[a.eval d, a.eval s]).run Tryd.prog w = .ok v w1 ∧ F v w1) (k : ∀ v w1, F v w1 → wpList Tryd.prog ops Q rest (a.put dst v) w1) :
    wpList Tryd.prog ops Q (⟨dst, .call { callee := .builtin .copy, args := #[d, s], argTypes := #[24, 24] }, ty, pos, after, none⟩ :: rest) a w := by
  obtain ⟨v, w1, hr, hf⟩ := h
  exact Lib.wpList_copy_run w rfl d s 24 24 rfl _ _ rfl rfl hr (k v w1 hf)
theorem z8_eq (n : Nat) : z8 n = (List.replicate n (0 : UInt8)).map cell := by simp [z8, cell]
set_option maxHeartbeats 1000000 in
set_option maxRecDepth 100000 in
theorem mblock_calls (w : World) (A : Option Addr) (c : Nat) (xs : List UInt8) (hK : KTab w) (hF : FTab w) (hx : Bs w A xs.length xs) (hc : xs.length ≤ c) (hl : xs.length < 500000000000000000) :
    Calls Tryd.prog 40 #[.slice A xs.length c] w (fun e w' => e = .returned (.agg ((Spec.key xs).map cell).toArray) ∧ Below w.heap.size w w') := by
  obtain ⟨B, hBdef⟩ : ∃ B, B = w.heap.size := ⟨_, rfl⟩
  have HBD := Aside0.mk hBdef
  have HK := Aside0.mk hK
  have HF := Aside0.mk hF
  have HX := Aside0.mk hx
  clear hK hF hx
  go_enter Tryd.func40, Tryd.ntmps40
  go_wp2_with (with_reducible refine gate_dst (N := 6) rfl ?_; refine Aside0.out ?_)
  refine Aside0.mk ?_
  refine wpList_world (fun w1 => Ext w w1 ∧ w1.heap.size = B + 2 ∧ Row w1 B (z8 64) 74 ∧ Row w1 (B + 1) (z8 64) 74) ⟨?_, ?_, ?_, ?_⟩ ?_
  · exact ((Ext.refl w).alloc _).alloc _
  · simp [hBdef]
  · rw [hBdef]; exact (Row.alloc w (z8 64) 74).alloc_other _
  · rw [hBdef, show w.heap.size + 1 = (w.alloc (.cells (z8 64).toArray 74)).heap.size by simp]; exact Row.alloc _ (z8 64) 74
  rintro w1 ⟨hE1, hS1, hA1, hC1⟩
  rw [← hBdef]
  have HE1 := Aside0.mk hE1
  have HS1 := Aside0.mk hS1
  have HA1 := Aside0.mk hA1
  have HC1 := Aside0.mk hC1
  have HX1 := Aside0.mk (HX.out.ext hE1)
  clear hE1 hS1 hA1 hC1 hBdef
  by_cases h64 : 64 < xs.length
  · have h64' : (64 : Int) < xs.length := by omega
    go_wp2_with fail
    refine (sumOne_calls w1 A xs.length c xs (HK.out.ext HE1.out) (HF.out.ext HE1.out) HX1.out hc hl).mono ?_
    rintro e w2 ⟨rfl, hE2⟩
    have HE2 := Aside0.mk hE2
    clear hE2
    go_wp2_with (with_reducible change wpList _ _ _ (Oper.mk _ (Op.store 28 _ _) _ _ _ _ :: _) _ _; refine Aside0.out ?_)
    refine Aside0.mk ?_
    refine wpList_store_row rfl 28 _ _ rfl w2.heap.size ((Spec.digest xs).map cell).toArray rfl (by simp only [go_sem, hashV, Act.eval, Act.put]; rfl) 28 _ (heap_alloc_new _ _) (by kernel_rfl) rfl (oneCells _) ?_
    obtain ⟨R, hR⟩ : ∃ R, R = w2.heap.size := ⟨_, rfl⟩
    have hEr : Ext w2 ((w2.alloc (.cells (z8 32).toArray 28)).setRow w2.heap.size ((Spec.digest xs).map cell).toArray) := below_alloc_setRow _ _ _
    refine wpList_world (fun w3 => Ext w1 w3 ∧ Row w3 R ((Spec.digest xs).map cell) 28) ⟨HE2.out.trans hEr, by rw [hR]; exact alloc_setRow _ _ _ _⟩ ?_
    rintro w3 ⟨hE3, hR3⟩
    rw [← hR]
    have HE3 := Aside0.mk hE3
    have HR3 := Aside0.mk hR3
    clear hE3 hR3 hR hEr
    go_wp2_with (with_reducible refine gate_dst (N := 14) rfl ?_; refine Aside0.out ?_)
    refine Aside0.mk ?_
    have hBs := Bs.row HR3.out (n := 32) (by rw [Spec.digest_length]) (by rw [Spec.digest_length]; omega)
    have hz3 : Row w3 (B + 1) ((List.replicate 64 (0 : UInt8)).map cell) 74 := by rw [← z8_eq]; exact HC1.out.ext HE3.out
    have HA3 := Aside0.mk (HA1.out.ext HE3.out)
    have HBS := Aside0.mk hBs
    have HZ3 := Aside0.mk hz3
    have hdl : (Spec.digest xs).length = 32 := Spec.digest_length xs
    clear hBs hz3
    refine wpL_copy (F := fun _ w4 => Only w3 (B + 1) w4 ∧ Row w4 (B + 1) ((Spec.key xs).map cell) 74) ?_ ?_
    · obtain ⟨k, w4, hr, hO, hR⟩ := run_copy_into w3 3 (B + 1) (List.replicate 64 0) 74 64 64 (some ⟨R, 0, none⟩) 32 (Spec.digest xs) HZ3.out rfl (by rw [hdl]; exact HBS.out) (by rw [hdl, List.length_replicate]; omega)
      rw [hdl] at hr
      refine ⟨k, w4, hr, hO, ?_⟩
      have e : Spec.key xs = Spec.digest xs ++ (List.replicate 64 0).drop (Spec.digest xs).length := by rw [Spec.key, if_pos h64, List.drop_replicate]
      rw [e]
      exact hR
    rintro v4 w4 ⟨hO4, hR4⟩
    have HA4 := Aside0.mk (hO4.row HA3.out (by omega))
    have HB4 := Aside0.mk (below_only (B := B) (by rw [HBD.out]; exact below_ext HE1.out HE3.out) hO4 (by omega) (by have := HE3.out.size; have := HS1.out; omega))
    have HR4 := Aside0.mk hR4
    have hk64 := Spec.key_length xs
    have HKL := Aside0.mk (show ((Spec.key xs).map cell).toArray.size = 64 by simp [hk64])
    clear hO4 hR4 hdl hk64
    go_wp2_with (with_reducible refine gate_dst (N := 15) rfl ?_; refine Aside0.out ?_)
    refine Aside0.mk ?_
    refine wpList_load_row rfl 74 _ rfl (B + 1) rfl 74 ((Spec.key xs).map cell).toArray (0, 0) _ HR4.out Tryd.underlying74 rfl (by rw [HKL.out]; kernel_rfl) ?_
    go_wp2_with (with_reducible change wpList _ _ _ (Oper.mk _ (Op.store 74 _ _) _ _ _ _ :: _) _ _; refine Aside0.out ?_)
    refine Aside0.mk ?_
    refine wpList_store_row rfl 74 _ _ rfl B ((Spec.key xs).map cell).toArray rfl (by simp [go_sem]) 74 _ HA4.out (by rw [HKL.out]; kernel_rfl) (by rw [HKL.out]; rfl) (oneCells _) ?_
    go_wp2
    (try simp only [Exit.inBlock, Exit.then])
    refine bodyPost_ret (results_cell_row rfl _ _ B 74 ((Spec.key xs).map cell).toArray (0, 0) _ rfl (setRow_heap _ _ _ _ _ _ HA4.out) Tryd.underlying74 rfl (by rw [HKL.out]; kernel_rfl)) rfl ?_
    exact ⟨rfl, by rw [← HBD.out]; exact Below.setRow HB4.out (Nat.le_refl _) _⟩
  · have h64' : ¬ ((64 : Int) < xs.length) := by omega
    go_wp2_with (with_reducible refine gate_dst (N := 14) rfl ?_; refine Aside0.out ?_)
    refine Aside0.mk ?_
    have hz3 : Row w1 (B + 1) ((List.replicate 64 (0 : UInt8)).map cell) 74 := by rw [← z8_eq]; exact HC1.out
    have HZ3 := Aside0.mk hz3
    clear hz3
    refine wpL_copy (F := fun _ w4 => Only w1 (B + 1) w4 ∧ Row w4 (B + 1) ((Spec.key xs).map cell) 74) ?_ ?_
    · obtain ⟨k, w4, hr, hO, hR⟩ := run_copy_into w1 3 (B + 1) (List.replicate 64 0) 74 64 64 A c xs HZ3.out rfl HX1.out (by rw [List.length_replicate]; omega)
      refine ⟨k, w4, hr, hO, ?_⟩
      have e : Spec.key xs = xs ++ (List.replicate 64 0).drop xs.length := by rw [Spec.key, if_neg h64, List.drop_replicate]
      rw [e]
      exact hR
    rintro v4 w4 ⟨hO4, hR4⟩
    have HA4 := Aside0.mk (hO4.row HA1.out (by omega))
    have HB4 := Aside0.mk (below_only (B := B) (by rw [HBD.out]; exact HE1.out) hO4 (by omega) (by have := HS1.out; omega))
    have HR4 := Aside0.mk hR4
    have hk64 := Spec.key_length xs
    have HKL := Aside0.mk (show ((Spec.key xs).map cell).toArray.size = 64 by simp [hk64])
    clear hO4 hR4 hk64
    go_wp2_with (with_reducible refine gate_dst (N := 15) rfl ?_; refine Aside0.out ?_)
    refine Aside0.mk ?_
    refine wpList_load_row rfl 74 _ rfl (B + 1) rfl 74 ((Spec.key xs).map cell).toArray (0, 0) _ HR4.out Tryd.underlying74 rfl (by rw [HKL.out]; kernel_rfl) ?_
    go_wp2_with (with_reducible change wpList _ _ _ (Oper.mk _ (Op.store 74 _ _) _ _ _ _ :: _) _ _; refine Aside0.out ?_)
    refine Aside0.mk ?_
    refine wpList_store_row rfl 74 _ _ rfl B ((Spec.key xs).map cell).toArray rfl (by simp [go_sem]) 74 _ HA4.out (by rw [HKL.out]; kernel_rfl) (by rw [HKL.out]; rfl) (oneCells _) ?_
    go_wp2
    (try simp only [Exit.inBlock, Exit.then])
    refine bodyPost_ret (results_cell_row rfl _ _ B 74 ((Spec.key xs).map cell).toArray (0, 0) _ rfl (setRow_heap _ _ _ _ _ _ HA4.out) Tryd.underlying74 rfl (by rw [HKL.out]; kernel_rfl)) rfl ?_
    exact ⟨rfl, by rw [← HBD.out]; exact Below.setRow HB4.out (Nat.le_refl _) _⟩
end Go.Proofs.YtnkhhnfmijljbaaDoor
