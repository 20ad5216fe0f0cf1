/- cairnlaw02.ShaKnown: true. -/
import Derived.Test.YtnkhhnfmijljbaaDoorAwk
set_option linter.unusedVariables false
set_option linter.unusedSimpArgs false
namespace Go.Proofs.YtnkhhnfmijljbaaDoor
open Go.RowKit Go.Proofs.YtnkhhnfmijljbaaDoorW.PrintWords Go.Proofs.YtnkhhnfmijljbaaDoorW.PrintLast Go.Proofs.YtnkhhnfmijljbaaDoorW.PrintMore
open Extern.Stop (cell)

theorem zero28 (w : World) : (zeroValue 28).run Tryd.prog w = .ok (.agg (zeroHash.map cell).toArray) w := by kernel_rfl
section
variable {P : Program} {ops : Array Oper} {Q : Exit → Act → World → Prop} {a : Act} {w w1 : World} {rest : List Oper} {dst : Option Tmp} {ty : TypeId} {pos : String} {after : Array Edge} {guard : Option (Nat × Bool)}
theorem wpL_val {op : Op} (v : Value) (hw : Region.wanted ⟨dst, op, ty, pos, after, guard⟩ (yielded ops a.tmps) = true) (hv : (execOp a.eval ⟨dst, op, ty, pos, after, guard⟩).run P w = .ok (.value v) w1)
    (h : wpList P ops Q rest (a.put dst v) w1) : wpList P ops Q (⟨dst, op, ty, pos, after, guard⟩ :: rest) a w :=
  wpList_step fun K hK => value_ hw rfl hv (hK _ _ h)
theorem wpL_row {t : TypeId} {x : Operand} (hw : Region.wanted ⟨dst, .load t x, ty, pos, after, guard⟩ (yielded ops a.tmps) = true) (b o : Nat) (hx : a.eval x = .pointer (some ⟨b, o, none⟩)) (cs : List Value) (d : TypeDesc)
    (hc : w.rangeAt b o cs) (hu : P.underlying t = some d) (hd : d.isRow = true) (hi : (P.info? t).map (·.size) = some cs.length)
    (h : wpList P ops Q rest (a.put dst (.agg cs.toArray)) w) : wpList P ops Q (⟨dst, .load t x, ty, pos, after, guard⟩ :: rest) a w :=
  wpL_val _ hw (by
    unfold execOp
    simp only [hx, Instr.loadAt, Instr.sureAddr, Sem.run_bind, Sem.run_pure, Result.andThen_ok, run_loadVar_mid w b o t cs d hc hu hd hi]) h
end
theorem eq28 (w : World) (xs ys : List UInt8) (hx : xs.length = 32) (hy : ys.length = 32) :
    (Op.equalIn 10000 28 (.agg (xs.map cell).toArray) (.agg (ys.map cell).toArray)).run Tryd.prog w = .ok (xs == ys) w :=
  run_equalIn_bytes w 9998 28 5 32 Tryd.underlying28 Tryd.underlying5 (fun w => by kernel_rfl) xs ys hx hy
set_option maxHeartbeats 1000000 in
set_option maxRecDepth 100000 in
theorem known_calls (w : World) (hK : KTab w) (hF : FTab w) (hL : LTab w) : Calls Tryd.prog 6 #[] w (fun e w' => e = .returned (.bool true) ∧ Below w.heap.size w w') := by
  have HK := Aside0.mk hK
  have HF := Aside0.mk hF
  have HL := Aside0.mk hL
  clear hK hF hL
  go_enter Tryd.func6, Tryd.ntmps6
  go_wp2_with fail
  have hb0 : Below w.heap.size w (w.alloc (.cells #[.int .u8 1] 5)) := Below.alloc (Below.refl _ _) (Nat.le_refl _) _
  refine (write_none _ _ _ _).mono ?_
  rintro e w1 ⟨rfl, rfl⟩
  go_wp2_with fail
  refine (sum_none _).mono ?_
  rintro e w1 ⟨rfl, hB1⟩
  have HB1 := Aside0.mk (show Below w.heap.size w w1 from hb0.trans ⟨hB1.os, hB1.tape, hB1.output, hB1.size, fun k hk => hB1.block k (by simp; omega)⟩)
  clear hb0 hB1
  go_wp2_with (with_reducible change wpList _ _ _ (Oper.mk _ (Op.store 28 _ _) _ _ _ _ :: _) _ _; refine Aside0.out ?_)
  refine Aside0.mk ?_
  refine wpList_store_row rfl 28 _ _ rfl w1.heap.size (zeroHash.map cell).toArray rfl (by simp [go_sem, hashV]) 28 _ (heap_alloc_new _ _) (by kernel_rfl) rfl (oneCells _) ?_
  go_wp2_with fail
  refine (len_none _).mono ?_
  rintro e w2 ⟨rfl, rfl⟩
  go_wp2_with fail
  refine (copy_none _).mono ?_
  rintro e w2 ⟨rfl, rfl⟩
  go_wp2_with fail
  have hb2 : Below w.heap.size w ((w1.alloc (.cells (z8 32).toArray 28)).setRow w1.heap.size (zeroHash.map cell).toArray) := Below.setRow (HB1.out.alloc HB1.out.size _) HB1.out.size _
  have hr2 : Row ((w1.alloc (.cells (z8 32).toArray 28)).setRow w1.heap.size (zeroHash.map cell).toArray) w1.heap.size (zeroHash.map cell) 28 := alloc_setRow _ _ _ _
  refine (awake_calls _ (HK.out.below hb2 HK.out.1) (HF.out.below hb2 HF.out.1) (HL.out.below hb2 HL.out.lt)).mono ?_
  rintro e w3 ⟨rfl, hB3⟩
  have HR3 := Aside0.mk (hr2.below hB3 hr2.lt)
  have HB3 := Aside0.mk (show Below w.heap.size w w3 from hb2.trans ⟨hB3.os, hB3.tape, hB3.output, hB3.size, fun k hk => hB3.block k (by have := hb2.size; omega)⟩)
  clear hb2 hr2 hB3
  have hz := zero28
  have he := eq28 w3 zeroHash zeroHash rfl rfl
  rw [beq_self_eq_true] at he
  have HE := Aside0.mk he
  clear he
  go_wp2_with (with_reducible refine gate_dst (N := 16) rfl ?_; refine Aside0.out ?_)
  refine Aside0.mk ?_
  refine wpL_row (by rfl) w1.heap.size 0 rfl (zeroHash.map cell) _ (rangeOfRow HR3.out) Tryd.underlying28 rfl (by kernel_rfl) ?_
  go_wp2_with (with_reducible refine gate_dst (N := 18) rfl ?_; refine Aside0.out ?_)
  refine Aside0.mk ?_
  refine wpL_val (.bool true) (w1 := w3) (by rfl) (by simp [execOp, HE.out, go_sem]) ?_
  go_wp2
  go_ret
  exact ⟨rfl, HB3.out⟩
end Go.Proofs.YtnkhhnfmijljbaaDoor
