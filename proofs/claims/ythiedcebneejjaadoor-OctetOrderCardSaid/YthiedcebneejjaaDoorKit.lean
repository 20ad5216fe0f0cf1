/- Plain lemmas of my own, over any program: regions that draw their order, walked once under a class of worlds; arrays of bytes; bit operations on UInt8. No program in sight. -/
import Derived.Test.YthiedcebneejjaaDoorRows
import Derived.WalkKit
import Derived.WalkSpells
import Derived.WalkLawsBesides
import Derived.Stop.BytesEq
import Derived.Deep.QuietTactic
import Derived.BigQuiet
import Derived.Deep.MidRow
import Derived.Lib.Hide
import Derived.ProofKit
import Derived.OpenShut
set_option linter.unusedVariables false
set_option linter.unusedSimpArgs false
namespace Go.Proofs.YthiedcebneejjaaDoor
open Go.RowKit
open Extern.Stop (cell)

/-! ### bytes in blocks -/
theorem cellRow (xs : List UInt8) (h : Nat) (w : World) (t : TypeId) (fr : Nat × Nat) (hg : w.heap[h]? = some (.cells (xs.map cell).toArray t fr)) (k : Nat) (hk : k < xs.length) :
    w.cell? ⟨h, k, none⟩ = some (.int .u8 (xs.getD k 0).toNat) := by
  simp [World.cell?, hg, cell, hk, List.getD]
theorem oneCells (xs : List UInt8) : (xs.map cell).toArray.all (·.oneCell') = true :=
  all_oneCell_toArray (fun v hv => by obtain ⟨x, _, rfl⟩ := List.mem_map.1 hv; rfl)
theorem heap_alloc3_new (w : World) (A B C : Obj) : (((w.alloc A).alloc B).alloc C).heap[w.heap.size + 1 + 1]? = some C := by
  have h := heap_alloc_new ((w.alloc A).alloc B) C
  have e : ((w.alloc A).alloc B).heap.size = w.heap.size + 1 + 1 := by simp
  rwa [e] at h
theorem heap_alloc3_mid (w : World) (A B C : Obj) : (((w.alloc A).alloc B).alloc C).heap[w.heap.size + 1]? = some B := by
  rw [Below.heap_alloc _ _ _ (by simp)]; exact heap_alloc2_new w A B
theorem heap_alloc3_old (w : World) (A B C : Obj) : (((w.alloc A).alloc B).alloc C).heap[w.heap.size]? = some A := by
  rw [Below.heap_alloc _ _ _ (by simp; omega)]; exact heap_alloc2_old w A B
theorem setRow_heap_other (w : World) (g b : Nat) (cs : Array Value) (h : b ≠ g) : (w.setRow g cs).heap[b]? = w.heap[b]? := by
  simp only [World.setRow, Array.getElem?_modify]
  rw [if_neg (fun e => h e.symm)]
theorem Below.setRow {B : Nat} {a w : World} (h : Below B a w) {g : Nat} (hg : B ≤ g) (cs : Array Value) : Below B a (w.setRow g cs) :=
  h.trans ⟨rfl, rfl, rfl, by simp, fun k hk => setRow_heap_other _ _ _ _ (by omega)⟩
theorem rangeOfRow {w : World} {b : Nat} {cs : List Value} {t : TypeId} {fr : Nat × Nat} (hb : w.heap[b]? = some (.cells cs.toArray t fr)) : w.rangeAt b 0 cs := fun j v hv => by
  rw [cell_of_row w b (0 + j) _ t fr hb]; simpa using hv
theorem rangeAt_below {w w' : World} {b o : Nat} {cs : List Value} (h : w.rangeAt b o cs) (hb : Below w.heap.size w w') : w'.rangeAt b o cs := fun j v hv => by
  have h1 := h j v hv
  rw [hb.cell (p := ⟨b, o + j, none⟩) (block_lt_of_cell h1)]; exact h1
theorem heap_below {w w' : World} {b : Nat} {o : Obj} (h : w.heap[b]? = some o) (hb : Below w.heap.size w w') : w'.heap[b]? = some o := by
  rw [hb.block b (by by_cases hlt : b < w.heap.size; exact hlt; rw [Array.getElem?_eq_none (by omega)] at h; cases h)]; exact h

/-! ### UInt8 -/
theorem bits_u8_xor (x y : UInt8) : bits .xor .u8 (x.toNat : Int) (y.toNat : Int) = ((x ^^^ y).toNat : Int) := by
  have hx := x.toNat_lt
  have hy := y.toNat_lt
  show IntKind.u8.wrap (((BitVec.ofInt 8 (x.toNat : Int) ^^^ BitVec.ofInt 8 (y.toNat : Int)) : BitVec 8).toNat : Int) = _
  rw [BitVec.ofInt_natCast, BitVec.ofInt_natCast, BitVec.toNat_xor, BitVec.toNat_ofNat, BitVec.toNat_ofNat, IntKind.wrap_u8, UInt8.toNat_xor, Nat.mod_eq_of_lt hx, Nat.mod_eq_of_lt hy]
  have := Nat.xor_lt_two_pow (n := 8) hx hy
  omega
theorem bits_u8_or (x y : UInt8) : bits .or .u8 (x.toNat : Int) (y.toNat : Int) = ((x ||| y).toNat : Int) := by
  have hx := x.toNat_lt
  have hy := y.toNat_lt
  show IntKind.u8.wrap (((BitVec.ofInt 8 (x.toNat : Int) ||| BitVec.ofInt 8 (y.toNat : Int)) : BitVec 8).toNat : Int) = _
  rw [BitVec.ofInt_natCast, BitVec.ofInt_natCast, BitVec.toNat_or, BitVec.toNat_ofNat, BitVec.toNat_ofNat, IntKind.wrap_u8, UInt8.toNat_or, Nat.mod_eq_of_lt hx, Nat.mod_eq_of_lt hy]
  have := Nat.or_lt_two_pow (n := 8) hx hy
  omega
theorem bits_u8_and (x y : UInt8) : bits .and .u8 (x.toNat : Int) (y.toNat : Int) = ((x &&& y).toNat : Int) := by
  have hx := x.toNat_lt
  have hy := y.toNat_lt
  show IntKind.u8.wrap (((BitVec.ofInt 8 (x.toNat : Int) &&& BitVec.ofInt 8 (y.toNat : Int)) : BitVec 8).toNat : Int) = _
  rw [BitVec.ofInt_natCast, BitVec.ofInt_natCast, BitVec.toNat_and, BitVec.toNat_ofNat, BitVec.toNat_ofNat, IntKind.wrap_u8, UInt8.toNat_and, Nat.mod_eq_of_lt hx, Nat.mod_eq_of_lt hy]
  have := Nat.and_lt_two_pow (n := 8) x.toNat hy
  omega

/-! ### a region that draws its order: one walk in the text's order, under a class of worlds -/
section
variable {P : Program} {ops : Array Oper} {C : World → Prop} {Q : Act → Prop} {a : Act} {rest : List Oper} {dst : Option Tmp} {ty : TypeId} {pos : String} {after : Array Edge} {guard : Option (Nat × Bool)}
theorem wpQ_skip {op : Op} (hw : Region.wanted ⟨dst, op, ty, pos, after, guard⟩ (yielded ops a.tmps) = false) (h : wpQuiet P ops C Q rest (a.put dst undef)) :
    wpQuiet P ops C Q (⟨dst, op, ty, pos, after, guard⟩ :: rest) a := BigFrame.wpQuiet_skip hw h
theorem wpQ_val {op : Op} (v : Value) (hw : Region.wanted ⟨dst, op, ty, pos, after, guard⟩ (yielded ops a.tmps) = true)
    (hv : ∀ w, C w → (execOp a.eval ⟨dst, op, ty, pos, after, guard⟩).run P w = .ok (.value v) w) (h : wpQuiet P ops C Q rest (a.put dst v)) :
    wpQuiet P ops C Q (⟨dst, op, ty, pos, after, guard⟩ :: rest) a :=
  BigFrame.wpQuiet_want hw fun K hK => ⟨v, fun w hC => by unfold Oper.quietAt; rw [hv w hC]; exact ⟨rfl, rfl⟩, hK _ h⟩
theorem wpQ_move {x : Operand} (hw : Region.wanted ⟨dst, .move x, ty, pos, after, guard⟩ (yielded ops a.tmps) = true) (h : wpQuiet P ops C Q rest (a.put dst (a.eval x))) :
    wpQuiet P ops C Q (⟨dst, .move x, ty, pos, after, guard⟩ :: rest) a := wpQ_val _ hw (fun w _ => by simp [execOp]) h
theorem wpQ_assign {x : Operand} (hw : Region.wanted ⟨dst, .assign x, ty, pos, after, guard⟩ (yielded ops a.tmps) = true) (h : wpQuiet P ops C Q rest (a.put dst (a.eval x))) :
    wpQuiet P ops C Q (⟨dst, .assign x, ty, pos, after, guard⟩ :: rest) a := wpQ_val _ hw (fun w _ => by simp [execOp]) h
theorem wpQ_pick {c x y : Operand} (b : Bool) (hc : a.eval c = .bool b) (hw : Region.wanted ⟨dst, .pick c x y, ty, pos, after, guard⟩ (yielded ops a.tmps) = true)
    (h : wpQuiet P ops C Q rest (a.put dst (if b then a.eval x else a.eval y))) : wpQuiet P ops C Q (⟨dst, .pick c x y, ty, pos, after, guard⟩ :: rest) a :=
  wpQ_val _ hw (fun w _ => by cases b <;> simp [execOp, hc, asBool]) h
theorem wpQ_row {t : TypeId} {x : Operand} (hw : Region.wanted ⟨dst, .load t x, ty, pos, after, guard⟩ (yielded ops a.tmps) = true) (b o : Nat) (hx : a.eval x = .pointer (some ⟨b, o, none⟩)) (cs : List Value) (d : TypeDesc)
    (hc : ∀ w, C w → w.rangeAt b o cs) (hu : P.underlying t = some d) (hd : d.isRow = true) (hi : (P.info? t).map (·.size) = some cs.length)
    (h : wpQuiet P ops C Q rest (a.put dst (.agg cs.toArray))) : wpQuiet P ops C Q (⟨dst, .load t x, ty, pos, after, guard⟩ :: rest) a :=
  wpQ_val _ hw (fun w hC => by
    unfold execOp
    simp only [hx, Instr.loadAt, Instr.sureAddr, Sem.run_bind, Sem.run_pure, Result.andThen_ok, run_loadVar_mid w b o t cs d (hc w hC) hu hd hi]) h
theorem wpQ_call {f : FuncId} {args : Array Operand} {argTypes : Array TypeId} (hw : Region.wanted ⟨dst, .call ⟨.value (.func f), args, argTypes⟩, ty, pos, after, guard⟩ (yielded ops a.tmps) = true)
    (vs : Array Value) (hvs : args.map a.eval = vs) (fn : Func) (hf : P.funcs[f]? = some fn) (hn : (fn.name == "runtime.NumGoroutine") = false) (hb : fn.body.isNone = false) (v : Value)
    (hc : ∀ w, C w → Calls P f vs w (fun e w' => e = .returned v ∧ C w')) (h : wpQuiet P ops C Q rest (a.put dst v)) :
    wpQuiet P ops C Q (⟨dst, .call ⟨.value (.func f), args, argTypes⟩, ty, pos, after, guard⟩ :: rest) a :=
  BigFrame.wpQuiet_want hw fun K hK => ⟨v, fun w hC => by
    unfold Oper.quietAt
    have e : (execOp a.eval ⟨dst, .call ⟨.value (.func f), args, argTypes⟩, ty, pos, after, guard⟩).run P w = .ok (.enter f vs) w := by
      have hn' : ¬ fn.name = "runtime.NumGoroutine" := by simpa using hn
      have hb' : ¬ fn.body = none := fun e => by rw [e] at hb; cases hb
      simp [execOp, resolve, Deferred.ofValue, invoke, callFunc, hvs, hf, hn', hb', go_sem]
    rw [e]
    exact ⟨rfl, hc w hC⟩, hK _ h⟩
theorem wpQ_call1 {f : FuncId} {x : Operand} {argTypes : Array TypeId} (hw : Region.wanted ⟨dst, .call ⟨.value (.func f), #[x], argTypes⟩, ty, pos, after, guard⟩ (yielded ops a.tmps) = true)
    (u : Value) (hx : a.eval x = u) (fn : Func) (hf : P.funcs[f]? = some fn) (hn : (fn.name == "runtime.NumGoroutine") = false) (hb : fn.body.isNone = false) (v : Value)
    (hc : ∀ w, C w → Calls P f #[u] w (fun e w' => e = .returned v ∧ C w')) (h : wpQuiet P ops C Q rest (a.put dst v)) :
    wpQuiet P ops C Q (⟨dst, .call ⟨.value (.func f), #[x], argTypes⟩, ty, pos, after, guard⟩ :: rest) a :=
  wpQ_call hw #[u] (by simp [hx]) fn hf hn hb v hc h
theorem wpQ_call2 {f : FuncId} {x y : Operand} {argTypes : Array TypeId} (hw : Region.wanted ⟨dst, .call ⟨.value (.func f), #[x, y], argTypes⟩, ty, pos, after, guard⟩ (yielded ops a.tmps) = true)
    (u u' : Value) (hx : a.eval x = u) (hy : a.eval y = u') (fn : Func) (hf : P.funcs[f]? = some fn) (hn : (fn.name == "runtime.NumGoroutine") = false) (hb : fn.body.isNone = false) (v : Value)
    (hc : ∀ w, C w → Calls P f #[u, u'] w (fun e w' => e = .returned v ∧ C w')) (h : wpQuiet P ops C Q rest (a.put dst v)) :
    wpQuiet P ops C Q (⟨dst, .call ⟨.value (.func f), #[x, y], argTypes⟩, ty, pos, after, guard⟩ :: rest) a :=
  wpQ_call hw #[u, u'] (by simp [hx, hy]) fn hf hn hb v hc h
end
/-! ### an array of bytes by value, as an argument -/
theorem u8_of_wf {a : Int} (h : (Lit.int .u8 a).wf = true) : 0 ≤ a ∧ a < 256 := by
  simp [Lit.wf, IntKind.min, IntKind.max, IntKind.signed, IntKind.bits] at h
  omega
theorem open_bytes {H : Type} {enc : TypeId × Value → H} {P : Program} {w : World} {base : Nat} {spare : Nat → Bool} {held : Bool} {r : Reach} {b0 : Nat} {t e : TypeId} {n : Nat} {v : Value} {d : DataW H} {p : List MemPlace}
    (hs : P.underlying t = some (.array n e)) (he : P.underlying e = some (.int .u8)) (hE : P.cellsOf e = 1) (hC : P.cellsOf t = n)
    (hv : Value.okWide P w r b0 t v) (h : DataW.Trod enc P w base spare held t v d p) : ∃ xs : List UInt8, xs.length = n ∧ v = .agg (xs.map cell).toArray := by
  unfold Value.okWide at hv
  rw [hs] at hv
  obtain ⟨cs, rfl, hsz, _⟩ := hv
  obtain ⟨fuel, hf⟩ := h
  obtain ⟨ys, m, _, _, hl, hn, hi⟩ := DataW.trod_array hs hf
  rw [hE] at hi
  simp only [Value.cells] at hi
  have key : ∀ i, i < n → ∃ x : UInt8, cs.toList[i]? = some (cell x) := fun i h => by
    have h1 := hi i h
    have hlt : i < cs.toList.length := by simp; omega
    rw [Nat.mul_one, show (cs.toList.drop i).take 1 = [cs.toList[i]] by rw [List.drop_eq_getElem_cons hlt]; simp] at h1
    rw [List.getElem?_eq_getElem (show i < ys.length by omega)] at h1
    obtain ⟨a, e0, _, wa⟩ := DataW.trod_int he h1
    have hb := u8_of_wf wa
    refine ⟨UInt8.ofNat a.toNat, ?_⟩
    rw [List.getElem?_eq_getElem hlt]
    simp only [List.cons.injEq, and_true] at e0
    rw [e0]
    simp only [cell, Option.some.injEq, Value.int.injEq, true_and]
    rw [UInt8.toNat_ofNat', show a.toNat % 2 ^ 8 = a.toNat by omega]
    exact (Int.toNat_of_nonneg hb.1).symm
  have fin : ∀ (l : List Value), (∀ i, i < l.length → ∃ x : UInt8, l[i]? = some (cell x)) → ∃ xs : List UInt8, l = xs.map cell := by
    intro l
    induction l with
    | nil => intro _; exact ⟨[], rfl⟩
    | cons c l ih =>
      intro hh
      obtain ⟨x, hx⟩ := hh 0 (by simp)
      obtain ⟨xs, hxs⟩ := ih fun i hi => by
        obtain ⟨y, hy⟩ := hh (i + 1) (by simpa using hi)
        exact ⟨y, by simpa using hy⟩
      refine ⟨x :: xs, ?_⟩
      simp only [List.getElem?_cons_zero, Option.some.injEq] at hx
      rw [hx, hxs, List.map_cons]
  obtain ⟨xs, hxs⟩ := fin cs.toList fun i h => key i (by simp at h; omega)
  refine ⟨xs, ?_, ?_⟩
  · have := congrArg List.length hxs
    simp at this
    omega
  · rw [← hxs]
end Go.Proofs.YthiedcebneejjaaDoor
