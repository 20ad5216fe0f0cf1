/- Parts of the proof: Plain lemmas of my own, over any program: regions that draw their order, walked once under a class of worlds; arrays of bytes; bit operations on UInt8. No program in sight. A plain law of my own over any program: a region that draws its order, whose operations read, compute, make memory or call, and leave all that was as it was. Each operation is shown once, whatever came up before it; what the slots hold is told by predicates that stand when the world grows. In the words' vocabulary (<Name>WInv). Plain words on memory, by a program out of texts of mine: rows, slices of bytes, rows of the call's own, appends, single operations. What cairnlaw01.Apart needs: six rows of the call's own, apart from each other. A plain law of my own over any program: 'make([]T, 0, m)' is an empty row of the call's own. In the words' vocabulary (<Name>WWords).   -/
import Derived.Test.YthiedcebneejjaaDoorRows
import Derived.WalkKit
import Derived.WalkSpells
import Derived.WalkLawsBesides
import Derived.Stop.BytesEq
import Derived.Deep.QuietTactic
import Derived.BigQuiet
import Derived.Deep.MidRow
import Derived.Lib.Hide
import Derived.ProofKit
import Derived.OpenShut
import Derived.Test.YthiedcebneejjaaDoorWInv
import Derived.Test.YthiedcebneejjaaDoorWInvWords
import Derived.Test.YthiedcebneejjaaDoorWMore
import Derived.Test.YthiedcebneejjaaDoorWWords
import Derived.Test.YthiedcebneejjaaDoorWLast
import Derived.Laws.CopyRow
import Derived.Lib.SlBuf
import Derived.Test.YthiedcebneejjaaDoorProg
import Derived.Below
import Derived.Deep.Draws
import Derived.Deep.AppendLies
import Derived.Maps.AppendAt
import Derived.OwnWalk
import Derived.Laws.BytesArg
import Derived.Laws.MakeOwn
import Derived.Laws.OwnMore
import Derived.Deep.OwnRows
import Derived.Tactics
import Derived.Lib.ConvBytes
import Derived.Laws.Slices
import Derived.KernelRfl
import Derived.RowKit3
import Derived.Deep.LoopGhost
import Derived.WideLaws
import Derived.Deep.DeepCutAuto
import Derived.Deep.CutBlock
import Derived.Deep.RegionHeld3
import Derived.Laws.Rows
import Derived.Lib.AppendStr
import Derived.ArgAppend
import Derived.Laws.IdiomCopy
import Derived.OrdersHeld
import Derived.Laws.BitsLemmas
import Derived.RowKit
import Derived.Test.YthiedcebneejjaaDoorWTab
import Derived.Test.YthiedcebneejjaaDoorWFour
import Derived.Test.YthiedcebneejjaaDoorWQPut
import Derived.Test.YthiedcebneejjaaDoorWApart
import Derived.Test.YthiedcebneejjaaDoorWArr
import Derived.Test.YthiedcebneejjaaDoorWZeros
import Derived.Test.YthiedcebneejjaaDoorWFoot
import Derived.Test.YthiedcebneejjaaDoorWKept
import Derived.Test.YthiedcebneejjaaDoorWShare
import Derived.Test.YthiedcebneejjaaDoorWN
import Derived.Test.YthiedcebneejjaaDoorWFootNe
import Derived.Test.YthiedcebneejjaaDoorWAt
import Derived.Test.YthiedcebneejjaaDoorWEqStruct
import Derived.Test.YthiedcebneejjaaDoorWRepsOne
import Derived.Test.YthiedcebneejjaaDoorWGuard
import Derived.Test.YthiedcebneejjaaDoorWNEv
set_option linter.unusedVariables false
set_option linter.unusedSimpArgs false
namespace Go.Proofs.YthiedcebneejjaaDoor
open Go.RowKit
open Extern.Stop (cell)

/-! ### bytes in blocks -/
theorem cellRow (xs : List UInt8) (h : Nat) (w : World) (t : TypeId) (fr : Nat × Nat) (hg : w.heap[h]? = some (.cells (xs.map cell).toArray t fr)) (k : Nat) (hk : k < xs.length) :
    w.cell? ⟨h, k, none⟩ = some (.int .u8 (xs.getD k 0).toNat) := by
  simp [World.cell?, hg, cell, hk, List.getD]
theorem oneCells (xs : List UInt8) : (xs.map cell).toArray.all (·.oneCell') = true :=
  all_oneCell_toArray (fun v hv => by obtain ⟨x, _, rfl⟩ := List.mem_map.1 hv; rfl)
theorem heap_alloc3_new (w : World) (A B C : Obj) : (((w.alloc A).alloc B).alloc C).heap[w.heap.size + 1 + 1]? = some C := by
  have h := heap_alloc_new ((w.alloc A).alloc B) C
  have e : ((w.alloc A).alloc B).heap.size = w.heap.size + 1 + 1 := by simp
  rwa [e] at h
theorem heap_alloc3_mid (w : World) (A B C : Obj) : (((w.alloc A).alloc B).alloc C).heap[w.heap.size + 1]? = some B := by
  rw [Below.heap_alloc _ _ _ (by simp)]; exact heap_alloc2_new w A B
theorem heap_alloc3_old (w : World) (A B C : Obj) : (((w.alloc A).alloc B).alloc C).heap[w.heap.size]? = some A := by
  rw [Below.heap_alloc _ _ _ (by simp; omega)]; exact heap_alloc2_old w A B
theorem setRow_heap_other (w : World) (g b : Nat) (cs : Array Value) (h : b ≠ g) : (w.setRow g cs).heap[b]? = w.heap[b]? := by
  simp only [World.setRow, Array.getElem?_modify]
  rw [if_neg (fun e => h e.symm)]
theorem Below.setRow {B : Nat} {a w : World} (h : Below B a w) {g : Nat} (hg : B ≤ g) (cs : Array Value) : Below B a (w.setRow g cs) :=
  h.trans ⟨rfl, rfl, rfl, by simp, fun k hk => setRow_heap_other _ _ _ _ (by omega)⟩
theorem rangeOfRow {w : World} {b : Nat} {cs : List Value} {t : TypeId} {fr : Nat × Nat} (hb : w.heap[b]? = some (.cells cs.toArray t fr)) : w.rangeAt b 0 cs := fun j v hv => by
  rw [cell_of_row w b (0 + j) _ t fr hb]; simpa using hv
theorem rangeAt_below {w w' : World} {b o : Nat} {cs : List Value} (h : w.rangeAt b o cs) (hb : Below w.heap.size w w') : w'.rangeAt b o cs := fun j v hv => by
  have h1 := h j v hv
  rw [hb.cell (p := ⟨b, o + j, none⟩) (block_lt_of_cell h1)]; exact h1
theorem heap_below {w w' : World} {b : Nat} {o : Obj} (h : w.heap[b]? = some o) (hb : Below w.heap.size w w') : w'.heap[b]? = some o := by
  rw [hb.block b (by by_cases hlt : b < w.heap.size; exact hlt; rw [Array.getElem?_eq_none (by omega)] at h; cases h)]; exact h

/-! ### UInt8 -/
theorem bits_u8_xor (x y : UInt8) : bits .xor .u8 (x.toNat : Int) (y.toNat : Int) = ((x ^^^ y).toNat : Int) := by
  have hx := x.toNat_lt
  have hy := y.toNat_lt
  show IntKind.u8.wrap (((BitVec.ofInt 8 (x.toNat : Int) ^^^ BitVec.ofInt 8 (y.toNat : Int)) : BitVec 8).toNat : Int) = _
  rw [BitVec.ofInt_natCast, BitVec.ofInt_natCast, BitVec.toNat_xor, BitVec.toNat_ofNat, BitVec.toNat_ofNat, IntKind.wrap_u8, UInt8.toNat_xor, Nat.mod_eq_of_lt hx, Nat.mod_eq_of_lt hy]
  have := Nat.xor_lt_two_pow (n := 8) hx hy
  omega
theorem bits_u8_or (x y : UInt8) : bits .or .u8 (x.toNat : Int) (y.toNat : Int) = ((x ||| y).toNat : Int) := by
  have hx := x.toNat_lt
  have hy := y.toNat_lt
  show IntKind.u8.wrap (((BitVec.ofInt 8 (x.toNat : Int) ||| BitVec.ofInt 8 (y.toNat : Int)) : BitVec 8).toNat : Int) = _
  rw [BitVec.ofInt_natCast, BitVec.ofInt_natCast, BitVec.toNat_or, BitVec.toNat_ofNat, BitVec.toNat_ofNat, IntKind.wrap_u8, UInt8.toNat_or, Nat.mod_eq_of_lt hx, Nat.mod_eq_of_lt hy]
  have := Nat.or_lt_two_pow (n := 8) hx hy
  omega
theorem bits_u8_and (x y : UInt8) : bits .and .u8 (x.toNat : Int) (y.toNat : Int) = ((x &&& y).toNat : Int) := by
  have hx := x.toNat_lt
  have hy := y.toNat_lt
  show IntKind.u8.wrap (((BitVec.ofInt 8 (x.toNat : Int) &&& BitVec.ofInt 8 (y.toNat : Int)) : BitVec 8).toNat : Int) = _
  rw [BitVec.ofInt_natCast, BitVec.ofInt_natCast, BitVec.toNat_and, BitVec.toNat_ofNat, BitVec.toNat_ofNat, IntKind.wrap_u8, UInt8.toNat_and, Nat.mod_eq_of_lt hx, Nat.mod_eq_of_lt hy]
  have := Nat.and_lt_two_pow (n := 8) x.toNat hy
  omega

/-! ### a region that draws its order: one walk in the text's order, under a class of worlds -/
section
variable {P : Program} {ops : Array Oper} {C : World → Prop} {Q : Act → Prop} {a : Act} {rest : List Oper} {dst : Option Tmp} {ty : TypeId} {pos : String} {after : Array Edge} {guard : Option (Nat × Bool)}
theorem wpQ_skip {op : Op} (hw : Region.wanted ⟨dst, op, ty, pos, after, guard⟩ (yielded ops a.tmps) = false) (h : wpQuiet P ops C Q rest (a.put dst undef)) :
    wpQuiet P ops C Q (⟨dst, op, ty, pos, after, guard⟩ :: rest) a := BigFrame.wpQuiet_skip hw h
theorem wpQ_val {op : Op} (v : Value) (hw : Region.wanted ⟨dst, op, ty, pos, after, guard⟩ (yielded ops a.tmps) = true)
    (hv : ∀ w, C w → (execOp a.eval ⟨dst, op, ty, pos, after, guard⟩).run P w = .ok (.value v) w) (h : wpQuiet P ops C Q rest (a.put dst v)) :
    wpQuiet P ops C Q (⟨dst, op, ty, pos, after, guard⟩ :: rest) a :=
  BigFrame.wpQuiet_want hw fun K hK => ⟨v, fun w hC => by unfold Oper.quietAt; rw [hv w hC]; exact ⟨rfl, rfl⟩, hK _ h⟩
theorem wpQ_move {x : Operand} (hw : Region.wanted ⟨dst, .move x, ty, pos, after, guard⟩ (yielded ops a.tmps) = true) (h : wpQuiet P ops C Q rest (a.put dst (a.eval x))) :
    wpQuiet P ops C Q (⟨dst, .move x, ty, pos, after, guard⟩ :: rest) a := wpQ_val _ hw (fun w _ => by simp [execOp]) h
theorem wpQ_assign {x : Operand} (hw : Region.wanted ⟨dst, .assign x, ty, pos, after, guard⟩ (yielded ops a.tmps) = true) (h : wpQuiet P ops C Q rest (a.put dst (a.eval x))) :
    wpQuiet P ops C Q (⟨dst, .assign x, ty, pos, after, guard⟩ :: rest) a := wpQ_val _ hw (fun w _ => by simp [execOp]) h
theorem wpQ_pick {c x y : Operand} (b : Bool) (hc : a.eval c = .bool b) (hw : Region.wanted ⟨dst, .pick c x y, ty, pos, after, guard⟩ (yielded ops a.tmps) = true)
    (h : wpQuiet P ops C Q rest (a.put dst (if b then a.eval x else a.eval y))) : wpQuiet P ops C Q (⟨dst, .pick c x y, ty, pos, after, guard⟩ :: rest) a :=
  wpQ_val _ hw (fun w _ => by cases b <;> simp [execOp, hc, asBool]) h
theorem wpQ_row {t : TypeId} {x : Operand} (hw : Region.wanted ⟨dst, .load t x, ty, pos, after, guard⟩ (yielded ops a.tmps) = true) (b o : Nat) (hx : a.eval x = .pointer (some ⟨b, o, none⟩)) (cs : List Value) (d : TypeDesc)
    (hc : ∀ w, C w → w.rangeAt b o cs) (hu : P.underlying t = some d) (hd : d.isRow = true) (hi : (P.info? t).map (·.size) = some cs.length)
    (h : wpQuiet P ops C Q rest (a.put dst (.agg cs.toArray))) : wpQuiet P ops C Q (⟨dst, .load t x, ty, pos, after, guard⟩ :: rest) a :=
  wpQ_val _ hw (fun w hC => by
    unfold execOp
    simp only [hx, Instr.loadAt, Instr.sureAddr, Sem.run_bind, Sem.run_pure, Result.andThen_ok, run_loadVar_mid w b o t cs d (hc w hC) hu hd hi]) h
theorem wpQ_call {f : FuncId} {args : Array Operand} {argTypes : Array TypeId} (hw : Region.wanted ⟨dst, .call ⟨.value (.func f), args, argTypes⟩, ty, pos, after, guard⟩ (yielded ops a.tmps) = true)
    (vs : Array Value) (hvs : args.map a.eval = vs) (fn : Func) (hf : P.funcs[f]? = some fn) (hn : (fn.name == "runtime.NumGoroutine") = false) (hb : fn.body.isNone = false) (v : Value)
    (hc : ∀ w, C w → Calls P f vs w (fun e w' => e = .returned v ∧ C w')) (h : wpQuiet P ops C Q rest (a.put dst v)) :
    wpQuiet P ops C Q (⟨dst, .call ⟨.value (.func f), args, argTypes⟩, ty, pos, after, guard⟩ :: rest) a :=
  BigFrame.wpQuiet_want hw fun K hK => ⟨v, fun w hC => by
    unfold Oper.quietAt
    have e : (execOp a.eval ⟨dst, .call ⟨.value (.func f), args, argTypes⟩, ty, pos, after, guard⟩).run P w = .ok (.enter f vs) w := by
      have hn' : ¬ fn.name = "runtime.NumGoroutine" := by simpa using hn
      have hb' : ¬ fn.body = none := fun e => by rw [e] at hb; cases hb
      simp [execOp, resolve, Deferred.ofValue, invoke, callFunc, hvs, hf, hn', hb', go_sem]
    rw [e]
    exact ⟨rfl, hc w hC⟩, hK _ h⟩
theorem wpQ_call1 {f : FuncId} {x : Operand} {argTypes : Array TypeId} (hw : Region.wanted ⟨dst, .call ⟨.value (.func f), #[x], argTypes⟩, ty, pos, after, guard⟩ (yielded ops a.tmps) = true)
    (u : Value) (hx : a.eval x = u) (fn : Func) (hf : P.funcs[f]? = some fn) (hn : (fn.name == "runtime.NumGoroutine") = false) (hb : fn.body.isNone = false) (v : Value)
    (hc : ∀ w, C w → Calls P f #[u] w (fun e w' => e = .returned v ∧ C w')) (h : wpQuiet P ops C Q rest (a.put dst v)) :
    wpQuiet P ops C Q (⟨dst, .call ⟨.value (.func f), #[x], argTypes⟩, ty, pos, after, guard⟩ :: rest) a :=
  wpQ_call hw #[u] (by simp [hx]) fn hf hn hb v hc h
theorem wpQ_call2 {f : FuncId} {x y : Operand} {argTypes : Array TypeId} (hw : Region.wanted ⟨dst, .call ⟨.value (.func f), #[x, y], argTypes⟩, ty, pos, after, guard⟩ (yielded ops a.tmps) = true)
    (u u' : Value) (hx : a.eval x = u) (hy : a.eval y = u') (fn : Func) (hf : P.funcs[f]? = some fn) (hn : (fn.name == "runtime.NumGoroutine") = false) (hb : fn.body.isNone = false) (v : Value)
    (hc : ∀ w, C w → Calls P f #[u, u'] w (fun e w' => e = .returned v ∧ C w')) (h : wpQuiet P ops C Q rest (a.put dst v)) :
    wpQuiet P ops C Q (⟨dst, .call ⟨.value (.func f), #[x, y], argTypes⟩, ty, pos, after, guard⟩ :: rest) a :=
  wpQ_call hw #[u, u'] (by simp [hx, hy]) fn hf hn hb v hc h
end
/-! ### an array of bytes by value, as an argument -/
theorem u8_of_wf {a : Int} (h : (Lit.int .u8 a).wf = true) : 0 ≤ a ∧ a < 256 := by
  simp [Lit.wf, IntKind.min, IntKind.max, IntKind.signed, IntKind.bits] at h
  omega
theorem open_bytes {H : Type} {enc : TypeId × Value → H} {P : Program} {w : World} {base : Nat} {spare : Nat → Bool} {held : Bool} {r : Reach} {b0 : Nat} {t e : TypeId} {n : Nat} {v : Value} {d : DataW H} {p : List MemPlace}
    (hs : P.underlying t = some (.array n e)) (he : P.underlying e = some (.int .u8)) (hE : P.cellsOf e = 1) (hC : P.cellsOf t = n)
    (hv : Value.okWide P w r b0 t v) (h : DataW.Trod enc P w base spare held t v d p) : ∃ xs : List UInt8, xs.length = n ∧ v = .agg (xs.map cell).toArray := by
  unfold Value.okWide at hv
  rw [hs] at hv
  obtain ⟨cs, rfl, hsz, _⟩ := hv
  obtain ⟨fuel, hf⟩ := h
  obtain ⟨ys, m, _, _, hl, hn, hi⟩ := DataW.trod_array hs hf
  rw [hE] at hi
  simp only [Value.cells] at hi
  have key : ∀ i, i < n → ∃ x : UInt8, cs.toList[i]? = some (cell x) := fun i h => by
    have h1 := hi i h
    have hlt : i < cs.toList.length := by simp; omega
    rw [Nat.mul_one, show (cs.toList.drop i).take 1 = [cs.toList[i]] by rw [List.drop_eq_getElem_cons hlt]; simp] at h1
    rw [List.getElem?_eq_getElem (show i < ys.length by omega)] at h1
    obtain ⟨a, e0, _, wa⟩ := DataW.trod_int he h1
    have hb := u8_of_wf wa
    refine ⟨UInt8.ofNat a.toNat, ?_⟩
    rw [List.getElem?_eq_getElem hlt]
    simp only [List.cons.injEq, and_true] at e0
    rw [e0]
    simp only [cell, Option.some.injEq, Value.int.injEq, true_and]
    rw [UInt8.toNat_ofNat', show a.toNat % 2 ^ 8 = a.toNat by omega]
    exact (Int.toNat_of_nonneg hb.1).symm
  have fin : ∀ (l : List Value), (∀ i, i < l.length → ∃ x : UInt8, l[i]? = some (cell x)) → ∃ xs : List UInt8, l = xs.map cell := by
    intro l
    induction l with
    | nil => intro _; exact ⟨[], rfl⟩
    | cons c l ih =>
      intro hh
      obtain ⟨x, hx⟩ := hh 0 (by simp)
      obtain ⟨xs, hxs⟩ := ih fun i hi => by
        obtain ⟨y, hy⟩ := hh (i + 1) (by simpa using hi)
        exact ⟨y, by simpa using hy⟩
      refine ⟨x :: xs, ?_⟩
      simp only [List.getElem?_cons_zero, Option.some.injEq] at hx
      rw [hx, hxs, List.map_cons]
  obtain ⟨xs, hxs⟩ := fin cs.toList fun i h => key i (by simp at h; omega)
  refine ⟨xs, ?_, ?_⟩
  · have := congrArg List.length hxs
    simp at this
    omega
  · rw [← hxs]
end Go.Proofs.YthiedcebneejjaaDoor
set_option linter.unusedVariables false
set_option linter.unusedSimpArgs false
namespace Go.Proofs.YthiedcebneejjaaDoorW.PrintLast
open Go.RowKit
/-- w' is w, and perhaps more blocks -/
def Ext (w w' : World) : Prop := Below w.heap.size w w'
theorem Ext.refl (w : World) : Ext w w := Below.refl _ _
theorem Ext.trans {a b c : World} (h : Ext a b) (k : Ext b c) : Ext a c := Below.trans h (Below.mono k h.size)
theorem Ext.drew {a w : World} (h : Ext a w) : Ext a w.drew := Below.drew h
theorem Ext.to_drew (w : World) : Ext w w.drew := (Ext.refl w).drew
theorem Ext.alloc {a w : World} (h : Ext a w) (o : Obj) : Ext a (w.alloc o) := Below.alloc h h.size o
theorem Ext.below {B : Nat} {a b c : World} (h : Below B a b) (hB : B ≤ b.heap.size) (k : Ext b c) : Below B a c := Below.trans h (Below.mono k hB)
def bitsOf (T : List (List Nat × List Nat)) : List Nat := (List.range T.length).foldl (fun B d => B ++ [upM B d ((T[d]?.map (·.1)).getD [])]) []
def extOk (ops : Array Oper) (D : List (Nat × Tmp)) (n : Nat) : Bool :=
  ops.size == n && waitsOk (rtab .any ops).2 (bitsOf (rtab .any ops).2) && baseOk (rtab .any ops).2 (List.range n)
    && (List.range n).all (fun i => match ops[i]? with
      | some o => (match o.dst with
        | some t => D.contains (i, t)
        | none => D.all fun e => !(e.1 == i))
      | none => false)
    && (List.range D.length).all (fun k => match D[k]? with
      | some x => (D.take k ++ D.drop (k + 1)).all fun e => !(e.1 == x.1) && !(e.2 == x.2)
      | none => false)
    && D.all (fun e => decide (e.1 < n))
section
variable {P : Program} {ops : Array Oper} {Q : Exit → Act → World → Prop}
/-- An operation that, run here, yields a good value, in a world that has grown at most. -/
def Good (P : Program) (o : Oper) (a : Act) (w : World) (Gi : World → Value → Prop) : Prop :=
  (∃ v w', (execOp a.eval o).run P w = .ok (.value v) w' ∧ Ext w w' ∧ Gi w' v) ∨
  (∃ f vs, (execOp a.eval o).run P w = .ok (.enter f vs) w ∧ Calls P f vs w (fun e w' => ∃ v, e = .returned v ∧ Ext w w' ∧ Gi w' v))
theorem Good.wp {o : Oper} {a : Act} {w : World} {Gi : World → Value → Prop} {K : Act → World → Prop} (h : Good P o a w Gi) (hk : ∀ v w', Ext w w' → Gi w' v → K (a.put o.dst v) w') : Oper.wp P o a w K Q := by
  unfold Oper.wp
  rcases h with ⟨v, w', e, h1, h2⟩ | ⟨f, vs, e, hc⟩
  · rw [e]; exact hk v w' h1 h2
  · rw [e]; exact hc.mono (fun e w' ⟨v, he, h1, h2⟩ => by subst he; exact hk v w' h1 h2)
/-- What is known of the slots when operation i comes up. -/
structure Has (a0 a : Act) (D : List (Nat × Tmp)) (m : Nat) (G : Nat → World → Value → Prop) (w : World) : Prop where
  dep : ∀ j t, D.contains (j, t) = true → m.testBit j = true → ∃ v, a.tmps[t]? = some v ∧ G j w v
  old : ∀ t, (D.all fun e => !(e.2 == t)) = true → a.tmps[t]? = a0.tmps[t]?
/-- The step of operation i. -/
def StepE (P : Program) (ops : Array Oper) (a0 : Act) (w0 : World) (D : List (Nat × Tmp)) (G : Nat → World → Value → Prop) (i : Nat) : Prop :=
  ∃ o, ops[i]? = some o ∧ ∀ a w, Ext w0 w → Has a0 a D ((bitsOf (rtab .any ops).2).getD i 0) G w →
    (Region.wanted o (yielded ops a.tmps) = true ∧ Good P o a w (G i)) ∨ (Region.wanted o (yielded ops a.tmps) = false ∧ G i w undef)
theorem stepE_nil {a0 : Act} {w0 : World} {D : List (Nat × Tmp)} {G : Nat → World → Value → Prop} : ∀ i ∈ ([] : List Nat), StepE P ops a0 w0 D G i := fun _ h => by cases h
theorem stepE_cons {a0 : Act} {w0 : World} {D : List (Nat × Tmp)} {G : Nat → World → Value → Prop} {i : Nat} {rs : List Nat} (h : StepE P ops a0 w0 D G i) (hs : ∀ j ∈ rs, StepE P ops a0 w0 D G j) : ∀ j ∈ i :: rs, StepE P ops a0 w0 D G j := fun j hj => by
  rcases List.mem_cons.1 hj with rfl | hj
  · exact h
  · exact hs j hj
theorem putSel_all {b : Nat → Bool} : ∀ {L : List (Nat × Tmp × Value)} {a : Act}, (∀ e ∈ L, b e.1 = true) → putSel a b L = putAll a (L.map fun e => e.2)
  | [], _, _ => rfl
  | e :: r, a, h => by
    unfold putSel
    rw [if_pos (h e List.mem_cons_self), putSel_all (fun x hx => h x (List.mem_cons_of_mem _ hx))]
    rfl
theorem putSel_begin {b : Nat → Bool} : ∀ {L : List (Nat × Tmp × Value)} {a : Act}, (∀ e ∈ L, b e.1 = false) → putSel a b L = a
  | [], _, _ => rfl
  | e :: r, a, h => by
    unfold putSel
    rw [if_neg (by rw [h e List.mem_cons_self]; decide), putSel_begin (fun x hx => h x (List.mem_cons_of_mem _ hx))]
theorem putSel_congr {b : Nat → Bool} {D : List (Nat × Tmp)} {f g : Nat → Value} (h : ∀ e ∈ D, f e.1 = g e.1) {a : Act} : putSel a b (D.map fun e => (e.1, e.2, f e.1)) = putSel a b (D.map fun e => (e.1, e.2, g e.1)) := by
  congr 1
  exact List.map_congr_left (fun e he => by rw [h e he])
/-- the frame is not smaller than the slots that the region fills -/
def fits (a0 : Act) (D : List (Nat × Tmp)) : Bool := D.all fun e => Nat.ble (e.2 + 1) a0.tmps.size
theorem ext_region {id : Nat} {a0 : Act} {w0 : World} (n : Nat) (D : List (Nat × Tmp)) (O : List Nat) (G : Nat → World → Value → Prop) (hm : P.follows .mixedOrders = true) (hok : extOk ops D n = true) (hfit : fits a0 D = true) (hO : List.range n = O)
    (hG : ∀ i w w' v, G i w v → Ext w w' → G i w' v) (hs : ∀ i ∈ O, StepE P ops a0 w0.drew D G i)
    (hend : ∀ (vals : Nat → Value) (w' : World), Ext w0.drew w' → (∀ i ∈ O, (D.any fun e => e.1 == i) = true → G i w' (vals i)) → Q .normal (putAll a0 (D.map fun e => (e.2, vals e.1))) w') :
    (Code.region id ops true).wp P Q a0 w0 := by
  subst hO
  simp only [extOk, Bool.and_eq_true, beq_iff_eq] at hok
  obtain ⟨⟨⟨⟨⟨hn, hw⟩, hk⟩, hd⟩, hdist⟩, hDlt⟩ := hok
  have hdist' : ∀ (k : Nat) (i : Nat) (t : Tmp), D[k]? = some (i, t) → ((D.take k ++ D.drop (k + 1)).all fun e => !(e.1 == i) && !(e.2 == t)) = true := fun k i t h => by
    have h1 := List.all_eq_true.1 hdist k (List.mem_range.2 (List.getElem?_eq_some_iff.1 h).1)
    rw [h] at h1
    exact h1
  have hfit' : ∀ e ∈ D, Nat.ble (e.2 + 1) a0.tmps.size = true := fun e he => List.all_eq_true.1 hfit e he
  refine start_ (n := n) (S := fun _ => True) (ds := []) (Array.replicate n false) hm hn rfl trivial (fun _ => ?_)
  have hTl : (rtab .any ops).2.length = n := by rw [rtab_length, hn]
  refine inv_ (md := .any) (T := rtab .any ops) (B := bitsOf (rtab .any ops).2) (List.range n)
    (fun b a w => Ext w0.drew w ∧ ∃ vals : Nat → Value, a = putSel a0 b (D.map fun e => (e.1, e.2, vals e.1)) ∧ ∀ i, b i = true → G i w (vals i)) rfl hw hk ?_ ?_ ?_ ?_
  · rw [hTl, Bool.and_eq_true, beq_iff_eq, beq_iff_eq]
    refine ⟨?_, by simp⟩
    rw [Array.toList_replicate]
    refine List.ext_getElem (by simp [lof]) (fun j h1 h2 => ?_)
    have hj : j < n := by simpa [lof] using h1
    simp [lof, hj]
  · refine ⟨Ext.refl _, fun _ => undef, ?_, fun i h => by cases h⟩
    rw [putSel_begin (fun e he => rfl)]
  · intro i hi b a w ⟨hE, vals, ha, hg⟩ hbi hon hoff
    obtain ⟨o, ho, hstep⟩ := hs i hi
    refine ⟨o, ho, fun K hK => ?_⟩
    have hin : i < n := List.mem_range.1 hi
    have hD := List.all_eq_true.1 hd i hi
    rw [ho] at hD
    simp only at hD
    -- the frame behind it
    have next : ∀ v w', Ext w w' → G i w' v → K (a.put o.dst v) w' := by
      intro v w' hE' hv
      refine hK _ _ ⟨hE.trans hE', fun j => if j = i then v else vals j, ?_, fun j hj => ?_⟩
      · cases hdst : o.dst with
        | none =>
          rw [hdst] at hD
          have hD' : ∀ e ∈ D, e.1 ≠ i := fun e he => by have := List.all_eq_true.1 hD e he; simpa using this
          have hnoi : ((D.map fun e => (e.1, e.2, (fun j => if j = i then v else vals j) e.1)).all fun e => !(e.1 == i)) = true :=
            List.all_eq_true.2 (fun x hx => by
              obtain ⟨e, he, rfl⟩ := List.mem_map.1 hx
              have := hD' e he
              simp [this])
          rw [putSel_same hnoi]
          show a = _
          rw [ha]
          exact putSel_congr (f := vals) (g := fun j => if j = i then v else vals j) (fun e he => by rw [if_neg (hD' e he)])
        | some t =>
          rw [hdst] at hD
          have hmem : (i, t) ∈ D := List.contains_iff_mem.1 hD
          obtain ⟨k, hkD⟩ := List.getElem?_of_mem hmem
          have hdi := hdist' k i t hkD
          rw [ha]
          refine putSel_upk k (v0 := vals i) hbi (by rw [List.getElem?_map, hkD]; rfl) ?_ ?_
          · refine List.ext_getElem? (fun j => ?_)
            rw [List.getElem?_set, List.getElem?_map, List.getElem?_map]
            by_cases hkj : k = j
            · subst hkj
              have hlt : k < D.length := (List.getElem?_eq_some_iff.1 hkD).1
              rw [if_pos rfl, if_pos (by simpa using hlt), hkD]
              simp
            · rw [if_neg hkj]
              cases hj : D[j]? with
              | none => rfl
              | some e =>
                have he : e.1 ≠ i := by
                  have hm1 : e ∈ D.take k ++ D.drop (k + 1) := by
                    rw [List.mem_append]
                    rcases Nat.lt_or_gt_of_ne hkj with h | h
                    · right
                      refine List.mem_of_getElem? (i := j - (k + 1)) ?_
                      rw [List.getElem?_drop, show k + 1 + (j - (k + 1)) = j by omega, hj]
                    · left
                      refine List.mem_of_getElem? (i := j) ?_
                      rw [List.getElem?_take, if_pos h, hj]
                  have := List.all_eq_true.1 hdi e hm1
                  simp only [Bool.and_eq_true] at this
                  simpa using this.1
                simp [he]
          · refine List.all_eq_true.2 (fun x hx => ?_)
            rw [← List.map_take, ← List.map_drop, ← List.map_append] at hx
            obtain ⟨e, he, rfl⟩ := List.mem_map.1 hx
            exact List.all_eq_true.1 hdi e he
      · by_cases hji : j = i
        · subst hji; simpa using hv
        · rw [up_ne hji] at hj
          simp only [if_neg hji]
          exact hG _ _ _ _ (hg j hj) hE'
    have has : Has a0 a D ((bitsOf (rtab .any ops).2).getD i 0) G w := by
      refine ⟨fun j t hjt hbit => ?_, fun t ht => ?_⟩
      · have hmem : (j, t) ∈ D := List.contains_iff_mem.1 hjt
        have hjn : j < n := by
          -- bits stand for numbers of the region
          by_cases hlt : j < n
          · exact hlt
          · exfalso
            have hTi : (rtab .any ops).2[i]? = some ((rtab .any ops).2[i]'(by rw [hTl]; exact hin)) := List.getElem?_eq_getElem _
            have key : ∀ (m d : Nat), d ≤ m → d < n → ∀ q, ((bitsOf (rtab .any ops).2).getD d 0).testBit q = true → q < n := by
              intro m
              induction m with
              | zero =>
                intro d hdm hdn q hq
                obtain rfl : d = 0 := by omega
                have hr : (rtab .any ops).2[0]? = some ((rtab .any ops).2[0]'(by rw [hTl]; exact hdn)) := List.getElem?_eq_getElem _
                have h1 := List.all_eq_true.1 hw 0 (List.mem_range.2 (by rw [hTl]; exact hdn))
                rw [hr] at h1
                simp only [beq_iff_eq] at h1
                have h2 : (upM (bitsOf (rtab .any ops).2) 0 ((rtab .any ops).2[0]'(by rw [hTl]; exact hdn)).1).testBit q = true := by rw [← h1, Nat.testBit_or, hq, Bool.true_or]
                obtain ⟨p, hp, h3⟩ := upM_bit h2
                have := (baseOk_row hk hr).2 p hp
                omega
              | succ m ih =>
                intro d hdm hdn q hq
                have hr : (rtab .any ops).2[d]? = some ((rtab .any ops).2[d]'(by rw [hTl]; exact hdn)) := List.getElem?_eq_getElem _
                have h1 := List.all_eq_true.1 hw d (List.mem_range.2 (by rw [hTl]; exact hdn))
                rw [hr] at h1
                simp only [beq_iff_eq] at h1
                have h2 : (upM (bitsOf (rtab .any ops).2) d ((rtab .any ops).2[d]'(by rw [hTl]; exact hdn)).1).testBit q = true := by rw [← h1, Nat.testBit_or, hq, Bool.true_or]
                obtain ⟨p, hp, h3⟩ := upM_bit h2
                have h4 := (baseOk_row hk hr).2 p hp
                rcases h3 with rfl | ⟨h5, h6⟩
                · omega
                · exact ih p (by omega) (by omega) q h6
            exact hlt (key i i (Nat.le_refl _) hin j hbit)
        have hbj : b j = true := hon j (by rw [hbit, Bool.and_true]; exact List.contains_iff_mem.2 (List.mem_range.2 hjn))
        obtain ⟨k, hkD⟩ := List.getElem?_of_mem hmem
        refine ⟨vals j, ?_, hg j hbj⟩
        rw [ha]
        refine putSel_on (e := (j, t, vals j)) k (by rw [List.getElem?_map, hkD]; rfl) ?_ hbj (hfit' _ hmem)
        refine List.all_eq_true.2 (fun x hx => ?_)
        rw [← List.map_drop] at hx
        obtain ⟨e, he, rfl⟩ := List.mem_map.1 hx
        have := List.all_eq_true.1 (hdist' k j t hkD) e (List.mem_append_right _ he)
        simp only [Bool.and_eq_true] at this
        exact this.2
      · rw [ha]
        refine putSel_off (List.all_eq_true.2 (fun x hx => ?_))
        obtain ⟨e, he, rfl⟩ := List.mem_map.1 hx
        exact List.all_eq_true.1 ht e he
    rcases hstep a w hE has with ⟨hw1, hgood⟩ | ⟨hw0, hu⟩
    · rw [if_pos hw1]
      exact hgood.wp next
    · rw [if_neg (by rw [hw0]; decide)]
      exact next undef w (Ext.refl w) hu
  · intro b a w hall ⟨hE, vals, ha, hg⟩
    have hall' : ∀ j, j < n → b j = true := fun j hj => hall j (List.contains_iff_mem.2 (List.mem_range.2 hj))
    have hDn : ∀ e ∈ D, b e.1 = true := by
      intro e he
      have h1 := List.all_eq_true.1 hDlt e he
      exact hall' _ (of_decide_eq_true h1)
    rw [ha, putSel_all (fun x hx => by obtain ⟨e, he, rfl⟩ := List.mem_map.1 hx; exact hDn e he), List.map_map]
    exact hend vals w hE (fun i hi _ => hg i (hall' i (List.mem_range.1 hi)))
/-! ### the same where the last operation, which waits for all others, writes or does whatever -/
def extOk1 (ops : Array Oper) (D : List (Nat × Tmp)) (n : Nat) : Bool :=
  ops.size == n && waitsOk (rtab .any ops).2 (bitsOf (rtab .any ops).2) && baseOk (rtab .any ops).2 (List.range n)
    && (List.range (n - 1)).all (fun i => match ops[i]? with
      | some o => (match o.dst with
        | some t => D.contains (i, t)
        | none => D.all fun e => !(e.1 == i))
      | none => false)
    && (List.range D.length).all (fun k => match D[k]? with
      | some x => (D.take k ++ D.drop (k + 1)).all fun e => !(e.1 == x.1) && !(e.2 == x.2)
      | none => false)
    && D.all (fun e => decide (e.1 < n - 1))
    && (List.range (n - 1)).all (fun j => ((bitsOf (rtab .any ops).2).getD (n - 1) 0).testBit j)
    && decide (0 < n)
theorem ext_tail {id : Nat} {a0 : Act} {w0 : World} (n : Nat) (D : List (Nat × Tmp)) (O : List Nat) (G : Nat → World → Value → Prop) (hm : P.follows .mixedOrders = true) (hok : extOk1 ops D n = true) (hfit : fits a0 D = true) (hO : List.range (n - 1) = O)
    (hG : ∀ i w w' v, G i w v → Ext w w' → G i w' v) (hs : ∀ i ∈ O, StepE P ops a0 w0.drew D G i)
    (hend : ∃ o, ops[n - 1]? = some o ∧ ∀ (vals : Nat → Value) (w' : World), Ext w0.drew w' → (∀ i ∈ O, (D.any fun e => e.1 == i) = true → G i w' (vals i)) →
      Region.wanted o (yielded ops (putAll a0 (D.map fun e => (e.2, vals e.1))).tmps) = true ∧ ∀ K : Act → World → Prop, Shut (∀ a' w'', Q .normal a' w'' → K a' w'') → Oper.wp P o (putAll a0 (D.map fun e => (e.2, vals e.1))) w' K Q) :
    (Code.region id ops true).wp P Q a0 w0 := by
  subst hO
  simp only [extOk1, Bool.and_eq_true, beq_iff_eq] at hok
  obtain ⟨⟨⟨⟨⟨⟨⟨hn, hw⟩, hk⟩, hd⟩, hdist⟩, hDlt⟩, hall1⟩, hpos⟩ := hok
  have hn0 : 0 < n := of_decide_eq_true hpos
  have hfall : ∀ j, j < n - 1 → ((bitsOf (rtab .any ops).2).getD (n - 1) 0).testBit j = true := fun j hj => List.all_eq_true.1 hall1 j (List.mem_range.2 hj)
  have hdist' : ∀ (k : Nat) (i : Nat) (t : Tmp), D[k]? = some (i, t) → ((D.take k ++ D.drop (k + 1)).all fun e => !(e.1 == i) && !(e.2 == t)) = true := fun k i t h => by
    have h1 := List.all_eq_true.1 hdist k (List.mem_range.2 (List.getElem?_eq_some_iff.1 h).1)
    rw [h] at h1
    exact h1
  have hfit' : ∀ e ∈ D, Nat.ble (e.2 + 1) a0.tmps.size = true := fun e he => List.all_eq_true.1 hfit e he
  refine start_ (n := n) (S := fun _ => True) (ds := []) (Array.replicate n false) hm hn rfl trivial (fun _ => ?_)
  have hTl : (rtab .any ops).2.length = n := by rw [rtab_length, hn]
  refine inv_ (md := .any) (T := rtab .any ops) (B := bitsOf (rtab .any ops).2) (List.range n)
    (fun b a w => if b (n - 1) = true then Q .normal a w else (Ext w0.drew w ∧ ∃ vals : Nat → Value, a = putSel a0 b (D.map fun e => (e.1, e.2, vals e.1)) ∧ ∀ i, b i = true → G i w (vals i))) rfl hw hk ?_ ?_ ?_ ?_
  · rw [hTl, Bool.and_eq_true, beq_iff_eq, beq_iff_eq]
    refine ⟨?_, by simp⟩
    rw [Array.toList_replicate]
    refine List.ext_getElem (by simp [lof]) (fun j h1 h2 => ?_)
    have hj : j < n := by simpa [lof] using h1
    simp [lof, hj]
  · dsimp only
    rw [if_neg Bool.false_ne_true]
    refine ⟨Ext.refl _, fun _ => undef, ?_, fun i h => by cases h⟩
    rw [putSel_begin (fun e he => rfl)]
  · intro i hi b a w hI hbi hon hoff
    have hin : i < n := List.mem_range.1 hi
    by_cases hif : i = n - 1
    · -- the last one
      subst hif
      rw [if_neg (by rw [hbi]; decide)] at hI
      obtain ⟨hE, vals, ha, hg⟩ := hI
      obtain ⟨o, ho, hlast⟩ := hend
      have hall' : ∀ j, j < n - 1 → b j = true := fun j hj => hon j (by rw [hfall j hj, Bool.and_true]; exact List.contains_iff_mem.2 (List.mem_range.2 (by omega)))
      have ha' : a = putAll a0 (D.map fun e => (e.2, vals e.1)) := by
        rw [ha, putSel_all (fun x hx => by
          obtain ⟨e, he, rfl⟩ := List.mem_map.1 hx
          exact hall' _ (of_decide_eq_true (List.all_eq_true.1 hDlt e he))), List.map_map]
        rfl
      refine ⟨o, ho, fun K hK => ?_⟩
      obtain ⟨hw1, hfin⟩ := hlast vals w hE (fun j hj _ => hg j (hall' j (List.mem_range.1 hj)))
      rw [← ha'] at hw1 hfin
      rw [if_pos hw1]
      exact hfin K (fun a' w'' hq => hK a' w'' (by dsimp only; rw [if_pos (up_self b _)]; exact hq))
    have hi1 : i ∈ List.range (n - 1) := List.mem_range.2 (by omega)
    have hbf : b (n - 1) = false := hoff (n - 1) (by rw [hfall i (by omega), Bool.and_true]; exact List.contains_iff_mem.2 (List.mem_range.2 (by omega)))
    rw [if_neg (by rw [hbf]; decide)] at hI
    obtain ⟨hE, vals, ha, hg⟩ := hI
    obtain ⟨o, ho, hstep⟩ := hs i hi1
    refine ⟨o, ho, fun K hK => ?_⟩
    have hD := List.all_eq_true.1 hd i hi1
    rw [ho] at hD
    simp only at hD
    -- the frame behind it
    have next : ∀ v w', Ext w w' → G i w' v → K (a.put o.dst v) w' := by
      intro v w' hE' hv
      refine hK _ _ ?_
      dsimp only
      rw [if_neg (by rw [up_ne (fun e => hif e.symm), hbf]; decide)]
      refine ⟨hE.trans hE', fun j => if j = i then v else vals j, ?_, fun j hj => ?_⟩
      · cases hdst : o.dst with
        | none =>
          rw [hdst] at hD
          have hD' : ∀ e ∈ D, e.1 ≠ i := fun e he => by have := List.all_eq_true.1 hD e he; simpa using this
          have hnoi : ((D.map fun e => (e.1, e.2, (fun j => if j = i then v else vals j) e.1)).all fun e => !(e.1 == i)) = true :=
            List.all_eq_true.2 (fun x hx => by
              obtain ⟨e, he, rfl⟩ := List.mem_map.1 hx
              have := hD' e he
              simp [this])
          rw [putSel_same hnoi]
          show a = _
          rw [ha]
          exact putSel_congr (f := vals) (g := fun j => if j = i then v else vals j) (fun e he => by rw [if_neg (hD' e he)])
        | some t =>
          rw [hdst] at hD
          have hmem : (i, t) ∈ D := List.contains_iff_mem.1 hD
          obtain ⟨k, hkD⟩ := List.getElem?_of_mem hmem
          have hdi := hdist' k i t hkD
          rw [ha]
          refine putSel_upk k (v0 := vals i) hbi (by rw [List.getElem?_map, hkD]; rfl) ?_ ?_
          · refine List.ext_getElem? (fun j => ?_)
            rw [List.getElem?_set, List.getElem?_map, List.getElem?_map]
            by_cases hkj : k = j
            · subst hkj
              have hlt : k < D.length := (List.getElem?_eq_some_iff.1 hkD).1
              rw [if_pos rfl, if_pos (by simpa using hlt), hkD]
              simp
            · rw [if_neg hkj]
              cases hj : D[j]? with
              | none => rfl
              | some e =>
                have he : e.1 ≠ i := by
                  have hm1 : e ∈ D.take k ++ D.drop (k + 1) := by
                    rw [List.mem_append]
                    rcases Nat.lt_or_gt_of_ne hkj with h | h
                    · right
                      refine List.mem_of_getElem? (i := j - (k + 1)) ?_
                      rw [List.getElem?_drop, show k + 1 + (j - (k + 1)) = j by omega, hj]
                    · left
                      refine List.mem_of_getElem? (i := j) ?_
                      rw [List.getElem?_take, if_pos h, hj]
                  have := List.all_eq_true.1 hdi e hm1
                  simp only [Bool.and_eq_true] at this
                  simpa using this.1
                simp [he]
          · refine List.all_eq_true.2 (fun x hx => ?_)
            rw [← List.map_take, ← List.map_drop, ← List.map_append] at hx
            obtain ⟨e, he, rfl⟩ := List.mem_map.1 hx
            exact List.all_eq_true.1 hdi e he
      · by_cases hji : j = i
        · subst hji; simpa using hv
        · rw [up_ne hji] at hj
          simp only [if_neg hji]
          exact hG _ _ _ _ (hg j hj) hE'
    have has : Has a0 a D ((bitsOf (rtab .any ops).2).getD i 0) G w := by
      refine ⟨fun j t hjt hbit => ?_, fun t ht => ?_⟩
      · have hmem : (j, t) ∈ D := List.contains_iff_mem.1 hjt
        have hjn : j < n := by
          -- bits stand for numbers of the region
          by_cases hlt : j < n
          · exact hlt
          · exfalso
            have hTi : (rtab .any ops).2[i]? = some ((rtab .any ops).2[i]'(by rw [hTl]; exact hin)) := List.getElem?_eq_getElem _
            have key : ∀ (m d : Nat), d ≤ m → d < n → ∀ q, ((bitsOf (rtab .any ops).2).getD d 0).testBit q = true → q < n := by
              intro m
              induction m with
              | zero =>
                intro d hdm hdn q hq
                obtain rfl : d = 0 := by omega
                have hr : (rtab .any ops).2[0]? = some ((rtab .any ops).2[0]'(by rw [hTl]; exact hdn)) := List.getElem?_eq_getElem _
                have h1 := List.all_eq_true.1 hw 0 (List.mem_range.2 (by rw [hTl]; exact hdn))
                rw [hr] at h1
                simp only [beq_iff_eq] at h1
                have h2 : (upM (bitsOf (rtab .any ops).2) 0 ((rtab .any ops).2[0]'(by rw [hTl]; exact hdn)).1).testBit q = true := by rw [← h1, Nat.testBit_or, hq, Bool.true_or]
                obtain ⟨p, hp, h3⟩ := upM_bit h2
                have := (baseOk_row hk hr).2 p hp
                omega
              | succ m ih =>
                intro d hdm hdn q hq
                have hr : (rtab .any ops).2[d]? = some ((rtab .any ops).2[d]'(by rw [hTl]; exact hdn)) := List.getElem?_eq_getElem _
                have h1 := List.all_eq_true.1 hw d (List.mem_range.2 (by rw [hTl]; exact hdn))
                rw [hr] at h1
                simp only [beq_iff_eq] at h1
                have h2 : (upM (bitsOf (rtab .any ops).2) d ((rtab .any ops).2[d]'(by rw [hTl]; exact hdn)).1).testBit q = true := by rw [← h1, Nat.testBit_or, hq, Bool.true_or]
                obtain ⟨p, hp, h3⟩ := upM_bit h2
                have h4 := (baseOk_row hk hr).2 p hp
                rcases h3 with rfl | ⟨h5, h6⟩
                · omega
                · exact ih p (by omega) (by omega) q h6
            exact hlt (key i i (Nat.le_refl _) hin j hbit)
        have hbj : b j = true := hon j (by rw [hbit, Bool.and_true]; exact List.contains_iff_mem.2 (List.mem_range.2 hjn))
        obtain ⟨k, hkD⟩ := List.getElem?_of_mem hmem
        refine ⟨vals j, ?_, hg j hbj⟩
        rw [ha]
        refine putSel_on (e := (j, t, vals j)) k (by rw [List.getElem?_map, hkD]; rfl) ?_ hbj (hfit' _ hmem)
        refine List.all_eq_true.2 (fun x hx => ?_)
        rw [← List.map_drop] at hx
        obtain ⟨e, he, rfl⟩ := List.mem_map.1 hx
        have := List.all_eq_true.1 (hdist' k j t hkD) e (List.mem_append_right _ he)
        simp only [Bool.and_eq_true] at this
        exact this.2
      · rw [ha]
        refine putSel_off (List.all_eq_true.2 (fun x hx => ?_))
        obtain ⟨e, he, rfl⟩ := List.mem_map.1 hx
        exact List.all_eq_true.1 ht e he
    rcases hstep a w hE has with ⟨hw1, hgood⟩ | ⟨hw0, hu⟩
    · rw [if_pos hw1]
      exact hgood.wp next
    · rw [if_neg (by rw [hw0]; decide)]
      exact next undef w (Ext.refl w) hu
  · intro b a w hall hI
    rw [if_pos (hall (n - 1) (List.contains_iff_mem.2 (List.mem_range.2 (by omega))))] at hI
    exact hI
/-! ### single operations -/
variable {o : Oper} {a : Act} {w : World} {Gi : World → Value → Prop}
theorem goodE_val (v : Value) (hr : (execOp a.eval o).run P w = .ok (.value v) w) (hg : Gi w v) : Good P o a w Gi := Or.inl ⟨v, w, hr, Ext.refl w, hg⟩
theorem goodE_move {x : Operand} (v : Value) (ho : o.op = .move x) (hx : a.eval x = v) (hg : Gi w v) : Good P o a w Gi := goodE_val v (by unfold execOp; rw [ho]; simp [hx]) hg
theorem goodE_assign {x : Operand} (v : Value) (ho : o.op = .assign x) (hx : a.eval x = v) (hg : Gi w v) : Good P o a w Gi := goodE_val v (by unfold execOp; rw [ho]; simp [hx]) hg
theorem goodE_pick {c x y : Operand} (b : Bool) (v : Value) (ho : o.op = .pick c x y) (hc : a.eval c = .bool b) (hv : (if b then a.eval x else a.eval y) = v) (hg : Gi w v) : Good P o a w Gi :=
  goodE_val v (by unfold execOp; rw [ho]; subst hv; cases b <;> simp [hc, asBool]) hg
theorem goodE_row {t : TypeId} {x : Operand} (b off : Nat) (cs : List Value) (d : TypeDesc) (ho : o.op = .load t x) (hx : a.eval x = .pointer (some ⟨b, off, none⟩)) (hc : w.rangeAt b off cs) (hu : P.underlying t = some d) (hd : d.isRow = true)
    (hi : (P.info? t).map (·.size) = some cs.length) (hg : Gi w (.agg cs.toArray)) : Good P o a w Gi :=
  goodE_val _ (by
    unfold execOp
    rw [ho]
    simp only [hx, Instr.loadAt, Instr.sureAddr, Sem.run_bind, Sem.run_pure, Result.andThen_ok, run_loadVar_mid w b off t cs d hc hu hd hi]) hg
theorem goodE_new (v : Value) (w' : World) (hr : (execOp a.eval o).run P w = .ok (.value v) w') (hE : Ext w w') (hg : Gi w' v) : Good P o a w Gi := Or.inl ⟨v, w', hr, hE, hg⟩
theorem goodE_call {f : FuncId} {args : Array Operand} {argTypes : Array TypeId} (ho : o.op = .call ⟨.value (.func f), args, argTypes⟩) (vs : Array Value) (hvs : args.map a.eval = vs) (fn : Func) (hf : P.funcs[f]? = some fn)
    (hn : (fn.name == "runtime.NumGoroutine") = false) (hb : fn.body.isNone = false) (hc : Calls P f vs w (fun e w' => ∃ v, e = .returned v ∧ Ext w w' ∧ Gi w' v)) : Good P o a w Gi := by
  refine Or.inr ⟨f, vs, ?_, hc⟩
  have hn' : ¬ fn.name = "runtime.NumGoroutine" := by simpa using hn
  have hb' : ¬ fn.body = none := fun e => by rw [e] at hb; cases hb
  unfold execOp
  rw [ho]
  simp [resolve, Deferred.ofValue, invoke, callFunc, hvs, hf, hn', hb', go_sem]
/-! ### the last operation -/
theorem finE_skip {K : Act → World → Prop} {w1 : World} (hr : (execOp a.eval o).run P w = .ok .skip w1) (h : K (a.put o.dst undef) w1) : Oper.wp P o a w K Q := by
  unfold Oper.wp; rw [hr]; exact h
theorem finE_val {K : Act → World → Prop} {w1 : World} {v : Value} (hr : (execOp a.eval o).run P w = .ok (.value v) w1) (h : K (a.put o.dst v) w1) : Oper.wp P o a w K Q := by
  unfold Oper.wp; rw [hr]; exact h
theorem finE_call {K : Act → World → Prop} {f : FuncId} {args : Array Operand} {argTypes : Array TypeId} (ho : o.op = .call ⟨.value (.func f), args, argTypes⟩) (vs : Array Value) (hvs : args.map a.eval = vs) (fn : Func) (hf : P.funcs[f]? = some fn)
    (hn : (fn.name == "runtime.NumGoroutine") = false) (hb : fn.body.isNone = false) (hc : Calls P f vs w (fun e w' => ∃ v, e = .returned v ∧ K (a.put o.dst v) w')) : Oper.wp P o a w K Q := by
  have hr : (execOp a.eval o).run P w = .ok (.enter f vs) w := by
    have hn' : ¬ fn.name = "runtime.NumGoroutine" := by simpa using hn
    have hb' : ¬ fn.body = none := fun e => by rw [e] at hb; cases hb
    unfold execOp
    rw [ho]
    simp [resolve, Deferred.ofValue, invoke, callFunc, hvs, hf, hn', hb', go_sem]
  unfold Oper.wp
  rw [hr]
  exact hc.mono (fun e w' ⟨v, he, h⟩ => by subst he; exact h)
end
end Go.Proofs.YthiedcebneejjaaDoorW.PrintLast
set_option linter.unusedVariables false
set_option linter.unusedSimpArgs false
namespace Go.Proofs.YthiedcebneejjaaDoor
open Go.RowKit Go.Proofs.YthiedcebneejjaaDoorW.PrintWords Go.Proofs.YthiedcebneejjaaDoorW.PrintLast Go.Proofs.YthiedcebneejjaaDoorW.PrintMore
open Extern.Stop (cell)

def n8 (x : UInt8) : Int := x.toNat
theorem wp_world {P : Program} {c : Code} {Q : Exit → Act → World → Prop} {a : Act} {w : World} (F : World → Prop) (h : F w) (k : ∀ w, F w → c.wp P Q a w) : c.wp P Q a w := k w h
theorem wp_stop {p : Prop} (h : p) : p := h
theorem cell_sh {w w' : World} (h : w'.heap = w.heap) (a : Addr) : w.cell? a = w'.cell? a := by simp [World.cell?, h]
/-- block b holds the cells L, and may be written -/
def Row (w : World) (b : Nat) (L : List Value) (t : TypeId) : Prop := w.heap[b]? = some (.cells L.toArray t (0, 0))
section
variable {w w' : World} {b : Nat} {L : List Value} {t : TypeId}
theorem Row.cell (h : Row w b L t) {k : Nat} {v : Value} (hv : L[k]? = some v) : w.cell? ⟨b, k, none⟩ = some v := by
  rw [cell_of_row w b k _ t _ h]; simpa using hv
theorem Row.lt (h : Row w b L t) : b < w.heap.size := by
  by_cases hh : b < w.heap.size
  · exact hh
  · unfold Row at h; rw [Array.getElem?_eq_none (by omega)] at h; cases h
theorem Row.free (h : Row w b L t) (k : Nat) : w.frozen? ⟨b, k, none⟩ = false := by
  unfold Row at h; simp [World.frozen?, h]
theorem Row.set (h : Row w b L t) (k : Nat) (v : Value) : Row (w.setCell ⟨b, k, none⟩ v) b (L.set k v) t := by
  unfold Row; rw [heap_setCell_same w b k _ t v h, List.setIfInBounds_toArray]
theorem Row.other (h : Row w b L t) (a : Addr) (v : Value) (hne : b ≠ a.block) : Row (w.setCell a v) b L t := by
  unfold Row; rw [heap_setCell_other w a b v hne]; exact h
theorem Row.below {B : Nat} (h : Row w b L t) (hb : Below B w w') (hlt : b < B) : Row w' b L t := by
  unfold Row; rw [hb.block b hlt]; exact h
theorem Row.alloc (w : World) (L : List Value) (t : TypeId) : Row (w.alloc (.cells L.toArray t)) w.heap.size L t := heap_alloc_new _ _
theorem Row.alloc_other (h : Row w b L t) (o : Obj) : Row (w.alloc o) b L t := by
  unfold Row; rw [Below.heap_alloc _ _ _ h.lt]; exact h
theorem below_drewN {B : Nat} {a : World} (h : Below B a w) (n : Nat) : Below B a (w.drewN n) := ⟨h.os, h.tape, h.output, h.size, h.block⟩
theorem Row.drew (h : Row w b L t) : Row w.drew b L t := h
end
/-- all but block g is as it was -/
structure Only (w : World) (g : Nat) (w' : World) : Prop where
  os : w'.os = w.os
  tape : w'.tape = w.tape
  output : w'.output = w.output
  size : w.heap.size ≤ w'.heap.size
  block : ∀ k, k < w.heap.size → k ≠ g → w'.heap[k]? = w.heap[k]?
theorem Only.of_below {w w' : World} (g : Nat) (h : Below w.heap.size w w') : Only w g w' := ⟨h.os, h.tape, h.output, h.size, fun k hk _ => h.block k hk⟩
theorem Only.set {w w' : World} {g : Nat} (h : Only w g w') (k : Nat) (v : Value) : Only w g (w'.setCell ⟨g, k, none⟩ v) :=
  ⟨h.os, h.tape, h.output, by simpa using h.size, fun j hj hne => by rw [heap_setCell_other _ _ _ _ hne]; exact h.block j hj hne⟩
theorem Only.drewN {w w' : World} {g : Nat} (h : Only w g w') (n : Nat) : Only w g (w'.drewN n) := ⟨h.os, h.tape, h.output, h.size, h.block⟩
theorem Only.drew {w w' : World} {g : Nat} (h : Only w g w') : Only w g w'.drew := ⟨h.os, h.tape, h.output, h.size, h.block⟩
theorem Only.row {w w' : World} {g b : Nat} {L : List Value} {t : TypeId} (h : Only w g w') (hr : Row w b L t) (hne : b ≠ g) : Row w' b L t := by
  unfold Row; rw [h.block b hr.lt hne]; exact hr
/-- bytes' numbers -/
def ints (xs : List UInt8) : List Int := xs.map n8
theorem ints_length (xs : List UInt8) : (ints xs).length = xs.length := by simp [ints]
/-- the slice (A, n) holds the bytes xs -/
def Bs (w : World) (A : Option Addr) (n : Nat) (xs : List UInt8) : Prop := Kd.C (Kd.int .u8) w A n (ints xs)
section
variable {w w' : World} {A : Option Addr} {n : Nat} {xs : List UInt8}
theorem Bs.len (h : Bs w A n xs) : n = xs.length := by have := Kd.C_len h; rw [ints_length] at this; exact this.symm
theorem Bs.max (h : Bs w A n xs) : n ≤ 9223372036854775807 := Kd.C_max h
theorem Bs.below (h : Bs w A n xs) (hb : Below w.heap.size w w') : Bs w' A n xs := Kd.C_below h hb
theorem Bs.cells (h : Bs w A n xs) (hn : 0 < n) : ∃ ad, A = some ad ∧ ∀ j v, (xs.map cell)[j]? = some v → w.cell? (ad.add j) = some v := by
  have hl := h.len
  have hR : ReadsOf (Value.int .u8) (0 : Int) w A n (ints xs) := Kd.reads_of_C (h1 := fun _ => rfl) h
  obtain ⟨ad, e, hc⟩ := hR.2.2 hn
  refine ⟨ad, e, fun j v hv => ?_⟩
  obtain ⟨hj, hv'⟩ := List.getElem?_eq_some_iff.1 hv
  rw [List.length_map] at hj
  rw [hc j (by omega), ← hv']
  simp [ints, List.getD, hj, cell, n8]
theorem Bs.cell (h : Bs w A n xs) (i : Nat) (hi : i < n) : ∃ ad, A = some ad ∧ w.cell? (ad.add i) = some (.int .u8 (n8 (xs.getD i 0))) := by
  have hl := h.len
  obtain ⟨ad, e, hc⟩ := h.cells (by omega)
  refine ⟨ad, e, hc i _ ?_⟩
  have hi' : i < xs.length := by omega
  simp [hi', List.getD, Extern.Stop.cell, n8]
theorem Bs.only {g : Nat} (h : Bs w A n xs) (hO : Only w g w') (hne : ∀ ad, A = some ad → 0 < n → ad.block ≠ g) : Bs w' A n xs :=
  Kd.C_keep (0 : Int) (h1 := fun _ => rfl) h ⟨hO.size, fun i hi hg _ => hO.block i hi hg⟩ hne
theorem Bs.drop {c : Nat} (h : Bs w A xs.length xs) (m : Nat) (hm : m ≤ xs.length) (hc : xs.length ≤ c) : Bs w (if c = m then A else A.map (·.add m)) (xs.drop m).length (xs.drop m) := by
  have h' : Kd.C (Kd.int .u8) w A (ints xs).length (ints xs) := by rw [ints_length]; exact h
  have := Kd.C_drop (m := m) (c := c) h' (by rw [ints_length]; exact hm) (by rw [ints_length]; exact hc)
  have e : (ints xs).drop m = ints (xs.drop m) := by simp [ints]
  rw [e, ints_length] at this
  simpa [Kd.int, Kd.scalar, Bs] using this
theorem Bs.take (h : Bs w A xs.length xs) (m : Nat) (hm : m ≤ xs.length) : Bs w A (xs.take m).length (xs.take m) := by
  have h' : Kd.C (Kd.int .u8) w A (ints xs).length (ints xs) := by rw [ints_length]; exact h
  have := Kd.C_take (m := m) h' (by rw [ints_length]; exact hm)
  have e : (ints xs).take m = ints (xs.take m) := by simp [ints]
  rw [e, ints_length] at this
  exact this
end
theorem Only.refl (w : World) (g : Nat) : Only w g w := ⟨rfl, rfl, rfl, Nat.le_refl _, fun _ _ _ => rfl⟩
theorem Only.trans {w w' w'' : World} {g : Nat} (h : Only w g w') (h' : Only w' g w'') : Only w g w'' :=
  ⟨h'.os.trans h.os, h'.tape.trans h.tape, h'.output.trans h.output, Nat.le_trans h.size h'.size, fun k hk hne => (h'.block k (Nat.lt_of_lt_of_le hk h.size) hne).trans (h.block k hk hne)⟩
theorem Only.setRow {w w' : World} {g : Nat} (h : Only w g w') (cs : Array Value) : Only w g (w'.setRow g cs) :=
  ⟨h.os, h.tape, h.output, by simpa using h.size, fun j hj hne => by rw [setRow_heap_other _ _ _ _ hne]; exact h.block j hj hne⟩
theorem Row.setRow {w : World} {b : Nat} {L L' : List Value} {t : TypeId} (h : Row w b L t) : Row (w.setRow b L'.toArray) b L' t := Go.setRow_heap _ _ _ _ _ _ h
theorem wpList_world {P : Program} {ops : Array Oper} {l : List Oper} {Q : Exit → Act → World → Prop} {a : Act} {w : World} (F : World → Prop) (h : F w) (k : ∀ w, F w → wpList P ops Q l a w) : wpList P ops Q l a w := k w h
theorem info5 : (Tryd.prog.info? 5).map (fun i => (i.zero, i.size, i.bytes)) = some (some (.int .u8 0), 1, 1) := by kernel_rfl
theorem below_only {a w w' : World} {B g : Nat} (h : Below B a w) (hO : Only w g w') (hg : B ≤ g) (hs : B ≤ w.heap.size) : Below B a w' :=
  ⟨hO.os.trans h.os, hO.tape.trans h.tape, hO.output.trans h.output, Nat.le_trans h.size hO.size, fun k hk => (hO.block k (by omega) (by omega)).trans (h.block k hk)⟩
/-- a whole block of bytes, as a slice of it -/
theorem Bs.of_row {w : World} {b : Nat} {xs : List UInt8} {t : TypeId} (h : Row w b (xs.map Extern.Stop.cell) t) (hl : xs.length ≤ 9223372036854775807) : Bs w (some ⟨b, 0, none⟩) xs.length xs := by
  refine Kd.C_of_reads (h1 := fun _ => rfl) (d := (0 : Int)) ⟨ints_length xs, hl, fun hn => ⟨_, rfl, fun j hj => ?_⟩⟩
  have := h.cell (k := j) (v := .int .u8 ((ints xs).getD j 0)) (by simp [ints, List.getD, hj, Extern.Stop.cell, n8])
  rw [show (⟨b, 0, none⟩ : Addr).add j = ⟨b, j, none⟩ by unfold Addr.add; split <;> simp_all]
  exact this
theorem alloc_setRow (w : World) (o : Array Value) (L : List Value) (t : TypeId) : Row ((w.alloc (.cells o t)).setRow w.heap.size L.toArray) w.heap.size L t := setRow_heap _ _ _ _ _ _ (heap_alloc_new _ _)
theorem below_alloc_setRow (w : World) (o : Obj) (cs : Array Value) : Below w.heap.size w ((w.alloc o).setRow w.heap.size cs) := Below.setRow (Below.alloc (Below.refl _ _) (Nat.le_refl _) _) (Nat.le_refl _) _
theorem Row.ext {w w' : World} {b : Nat} {L : List Value} {t : TypeId} (h : Row w b L t) (hE : Ext w w') : Row w' b L t := h.below hE h.lt
theorem Bs.ext {w w' : World} {A : Option Addr} {n : Nat} {xs : List UInt8} (h : Bs w A n xs) (hE : Ext w w') : Bs w' A n xs := h.below hE
theorem Bs.row {w : World} {b n : Nat} {xs : List UInt8} {t : TypeId} (h : Row w b (xs.map Extern.Stop.cell) t) (hn : n = xs.length) (hl : xs.length ≤ 9223372036854775807) : Bs w (some ⟨b, 0, none⟩) n xs := by
  subst hn
  exact Bs.of_row h hl
theorem addr_add (b i j : Nat) : (⟨b, i, none⟩ : Addr).add j = ⟨b, i + j, none⟩ := by unfold Addr.add; split <;> simp_all
theorem Bs.sub {w : World} {b : Nat} {xs : List UInt8} {t : TypeId} (h : Row w b (xs.map Extern.Stop.cell) t) (i m : Nat) (hi : i + m ≤ xs.length) (hl : xs.length ≤ 9223372036854775807) : Bs w (some ⟨b, i, none⟩) m ((xs.drop i).take m) := by
  have hm : m = ((xs.drop i).take m).length := by simp; omega
  refine Kd.C_of_reads (h1 := fun _ => rfl) (d := (0 : Int)) ⟨by rw [ints_length]; exact hm.symm, by omega, fun hn => ⟨_, rfl, fun j hj => ?_⟩⟩
  have hj' : i + j < xs.length := by omega
  have e1 : ((xs.drop i).take m)[j]? = some xs[i + j] := by rw [List.getElem?_take, if_pos hj, List.getElem?_drop, List.getElem?_eq_getElem hj']
  have e2 : (ints ((xs.drop i).take m)).getD j 0 = n8 xs[i + j] := by rw [ints, List.getD, List.getElem?_map, e1]; rfl
  have := h.cell (k := i + j) (v := .int .u8 ((ints ((xs.drop i).take m)).getD j 0)) (by rw [e2, List.getElem?_map, List.getElem?_eq_getElem hj']; rfl)
  rw [addr_add]
  exact this
section
variable {P : Program} {ops : Array Oper} {Q : Exit → Act → World → Prop} {a : Act} {w w1 : World} {rest : List Oper} {dst : Option Tmp} {ty : TypeId} {pos : String} {after : Array Edge} {guard : Option (Nat × Bool)}
theorem wpL_val {op : Op} (v : Value) (hw : Region.wanted ⟨dst, op, ty, pos, after, guard⟩ (yielded ops a.tmps) = true) (hv : (execOp a.eval ⟨dst, op, ty, pos, after, guard⟩).run P w = .ok (.value v) w1)
    (h : wpList P ops Q rest (a.put dst v) w1) : wpList P ops Q (⟨dst, op, ty, pos, after, guard⟩ :: rest) a w :=
  wpList_step fun K hK => value_ hw rfl hv (hK _ _ h)
end
section
variable {B : Nat} {w w' : World} {v : Value} {xs : List UInt8}
theorem fr_lt {A : Option Addr} {n : Nat} (h : Bs w A n xs) (ad : Addr) (ha : A = some ad) (hn : 0 < n) : ad.block < w.heap.size := by
  obtain ⟨ad', h1, h2⟩ := h.cells hn
  have hl := h.len
  rw [ha] at h1
  cases h1
  have h3 := Go.World.block_lt_of_cell? _ _ (h2 0 _ (by rw [List.getElem?_map, List.getElem?_eq_getElem (by omega : 0 < xs.length)]; rfl))
  rw [add_block] at h3
  exact h3
end
theorem below_ext {w a b : World} (h : Below w.heap.size w a) (k : Ext a b) : Below w.heap.size w b := Ext.below h h.size k
theorem i5 : ∃ i : TypeInfo, Tryd.prog.info? 5 = some i ∧ i.zero = some (.int .u8 0) ∧ i.size = 1 ∧ i.bytes = 1 := by
  obtain ⟨i, h, hz⟩ := Option.map_eq_some_iff.1 info5
  simp only [Prod.mk.injEq] at hz
  exact ⟨i, h, hz.1, hz.2.1, hz.2.2⟩
theorem cells_of_bs {w : World} {ad : Addr} {n : Nat} {xs : List UInt8} (h : Bs w (some ad) n xs) : ∀ j u, (xs.map cell)[j]? = some u → w.cell? (ad.add j) = some u := by
  intro j u hu
  have hl := h.len
  have hj := (List.getElem?_eq_some_iff.1 hu).1
  rw [List.length_map] at hj
  obtain ⟨ad', h1, h2⟩ := h.cells (by omega)
  cases h1
  exact h2 j u hu
abbrev Pt := Option Addr × Nat × List UInt8
def pv (l : Pt) : Value := .slice l.1 l.2.2.length l.2.1
section
variable {B B' : Nat} {w w' : World} {v : Value} {ls : List Pt}
theorem grown_of_only {g : Nat} (hO : Only w g w') : w.grownBy w' (some g) := ⟨hO.os, hO.tape, hO.output, hO.size, fun k hk hne => hO.block k hk (fun e => hne (by rw [e]))⟩
end
section
variable {ops : Array Oper} {rest : List Oper} {o : Oper} {a : Act} {Q : Exit → Act → World → Prop}
theorem wpL_ex {op : Op} {dst : Option Tmp} {ty : TypeId} {pos : String} {after : Array Edge} {guard : Option (Nat × Bool)} {w : World} {F : Value → World → Prop} (hw : Region.wanted ⟨dst, op, ty, pos, after, guard⟩ (yielded ops a.tmps) = true)
    (h : ∃ v w1, (execOp a.eval ⟨dst, op, ty, pos, after, guard⟩).run Tryd.prog w = .ok (.value v) w1 ∧ F v w1) (k : ∀ v w1, F v w1 → wpList Tryd.prog ops Q rest (a.put dst v) w1) : wpList Tryd.prog ops Q (⟨dst, op, ty, pos, after, guard⟩ :: rest) a w := by
  obtain ⟨v, w1, hr, hf⟩ := h
  exact wpL_val v hw hr (k v w1 hf)
end
theorem exec_append {P : Program} {w : World} {ρ : Operand → Value} {o : Oper} {s x : Operand} {t u : TypeId} (ho : o.op = .call { callee := .builtin .append, args := #[s, x], argTypes := #[t, u] }) {v : Value} {w1 : World}
    (h : (Builtin.append_ #[t, u] o.type #[ρ s, ρ x]).run P w = .ok v w1) : (execOp ρ o).run P w = .ok (.value v) w1 := by
  unfold execOp
  simp only [ho, resolve, invoke, builtin, Sem.run_bind, Sem.run_pure, Result.andThen_ok, List.map_toArray, List.map_cons, List.map_nil, h]
theorem elem22 : Tryd.prog.underlying 22 = some (.slice (Tryd.prog.elem 22)) := by kernel_rfl
theorem exec_slice {w : World} {ρ : Operand → Value} {o : Oper} {x : Operand} {lo hi mx : Option Operand} (ho : o.op = .slice 22 x lo hi mx) {v : Value} {w1 : World}
    (h : (Instr.slice 22 (ρ x) (lo.map ρ) (hi.map ρ) (mx.map ρ)).run Tryd.prog w = .ok v w1) : (execOp ρ o).run Tryd.prog w = .ok (.value v) w1 := by
  unfold execOp
  rw [ho]
  simp only [Sem.run_bind, Sem.run_pure, Result.andThen_ok, run_sliceAt_slice _ _ _ _ _ _ elem22, h]
section
variable {ops : Array Oper} {rest : List Oper} {a : Act} {Q : Exit → Act → World → Prop} {dst : Option Tmp} {ty : TypeId} {pos : String} {after : Array Edge} {guard : Option (Nat × Bool)} {w : World}
/-- 'x[lo:hi]' -/
theorem wpL_slice {x : Operand} {lo hi mx : Option Operand} (v : Value) (hw : Region.wanted ⟨dst, .slice 22 x lo hi mx, ty, pos, after, guard⟩ (yielded ops a.tmps) = true) (h : (Instr.slice 22 (a.eval x) (lo.map a.eval) (hi.map a.eval) (mx.map a.eval)).run Tryd.prog w = .ok v w)
    (k : wpList Tryd.prog ops Q rest (a.put dst v) w) : wpList Tryd.prog ops Q (⟨dst, .slice 22 x lo hi mx, ty, pos, after, guard⟩ :: rest) a w := wpL_val v hw (exec_slice (o := ⟨dst, .slice 22 x lo hi mx, ty, pos, after, guard⟩) rfl h) k
/-- 'append(s, x...)' -/
theorem wpL_append {s x : Operand} {t u : TypeId} {F : Value → World → Prop} (hw : Region.wanted ⟨dst, .call { callee := .builtin .append, args := #[s, x], argTypes := #[t, u] }, ty, pos, after, guard⟩ (yielded ops a.tmps) = true)
    (h : ∃ v w1, (Builtin.append_ #[t, u] ty #[a.eval s, a.eval x]).run Tryd.prog w = .ok v w1 ∧ F v w1) (k : ∀ v w1, F v w1 → wpList Tryd.prog ops Q rest (a.put dst v) w1) :
    wpList Tryd.prog ops Q (⟨dst, .call { callee := .builtin .append, args := #[s, x], argTypes := #[t, u] }, ty, pos, after, guard⟩ :: rest) a w := by
  obtain ⟨v, w1, hr, hf⟩ := h
  exact wpL_val v hw (exec_append (o := ⟨dst, .call { callee := .builtin .append, args := #[s, x], argTypes := #[t, u] }, ty, pos, after, guard⟩) rfl hr) (k v w1 hf)
end
def strB (l : List UInt8) : ByteArray := ⟨l.toArray⟩
theorem strB_size (l : List UInt8) : (strB l).size = l.length := by show l.toArray.size = _; simp
theorem bytesOf_strB (l : List UInt8) : bytesOf (strB l) = ints l := by
  simp [bytesOf, strB, ints]
  exact fun a _ => rfl
theorem strOf_strB (l : List UInt8) : strOfNums (ints l) = strB l := by
  unfold strOfNums strB ints
  rw [List.map_map]
  have h : l.map ((fun n => UInt8.ofNat n.toNat) ∘ n8) = l := by
    conv => rhs; rw [← List.map_id l]
    exact List.map_congr_left (fun x _ => by simp [n8])
  rw [h]
theorem cell_ext {w w' : World} (hE : Ext w w') {p : Addr} {v : Value} (h : w.cell? p = some v) : w'.cell? p = some v := (hE.cell (Go.World.block_lt_of_cell? _ _ h)).trans h
/-- a row of bytes of the call's own, from block B on -/
def Ob (B : Nat) (w : World) (v : Value) (al : List UInt8) : Prop := w.ownsRow B 5 1 v (ints al).length (nums .u8 (ints al))
section
variable {B : Nat} {w w' : World} {v : Value} {al : List UInt8}
theorem Ob.nil : Ob B w (.slice none 0 0) [] := own_nil _ _ _ _
theorem Ob.ext (h : Ob B w v al) (hE : Ext w w') : Ob B w' v al := pw_own_below h hE
theorem Ob.only {g : Nat} (h : Ob B w v al) (hO : Only w g w') (hg : g < B) : Ob B w' v al := World.ownsRow.kept h (grown_of_only hO) (by
  cases hb : v.ownBlock with
  | none => exact .inl rfl
  | some k => exact .inr (fun e => by have := own_base h k hb; injection e with e; omega))
theorem Ob.open (h : Ob B w v al) : ∃ A c, v = .slice A al.length c ∧ al.length ≤ c ∧ Bs w A al.length al := by
  obtain ⟨A, c, rfl, hr⟩ := own_reads h
  have hc := own_le h
  rw [ints_length] at hr hc ⊢
  exact ⟨A, c, rfl, hc, Kd.C_of_reads (h1 := fun _ => rfl) (d := (0 : Int)) hr⟩
theorem Ob.made (w : World) : Ob w.heap.size (w.alloc (.cells #[] 5)) (.slice (some ⟨w.heap.size, 0, none⟩) 0 0) [] :=
  ⟨rfl, .inr ⟨w.heap.size, 0, #[], rfl, Nat.le_refl _, heap_alloc_new w _, Nat.le_refl _, Nat.zero_le _, rfl, rfl⟩⟩
theorem Bs.reads {A : Option Addr} {n : Nat} {xs : List UInt8} (h : Bs w A n xs) : ReadsInt w .u8 A n (ints xs) := by
  have := Kd.reads_of_C (d := (0 : Int)) (h1 := fun _ => rfl) h
  exact this
theorem Bs.none_ (w : World) (A : Option Addr) : Bs w A 0 [] := Kd.C_of_reads (h1 := fun _ => rfl) (d := (0 : Int)) ⟨rfl, by simp, fun hp => by simp at hp⟩
theorem Bs.one (w : World) (x : UInt8) : Bs (w.alloc (.cells #[.int .u8 (n8 x)] 5)) (some ⟨w.heap.size, 0, none⟩) 1 [x] := Bs.row (Row.alloc w ([x].map Extern.Stop.cell) 5) rfl (by simp)
end
theorem byteInt (k : Nat) : (k : Int) % 256 = n8 (UInt8.ofNat k) := by
  unfold n8; rw [UInt8.toNat_ofNat']; omega
section
variable {P : Program} {ops : Array Oper} {rest : List Oper} {o : Oper} {a : Act} {Q : Exit → Act → World → Prop}
/-- append(v, y) on a row of the call's own -/
theorem ob_push {w W : World} (hgd : o.guard = none) (s x : Operand) (v : Value) (al : List UInt8) (y : UInt8) (ho : o.op = .call { callee := .builtin .append, args := #[s, x], argTypes := #[22, 22] })
    (hs : a.eval s = v) (hx : a.eval x = .slice (some ⟨W.heap.size, 0, none⟩) 1 1) (HO : Ob w.heap.size W v al) (hE : Ext w W) (hl : al.length < 140737488355328)
    (h : ∀ v1 w1, Ob w.heap.size w1 v1 (al ++ [y]) → Ext w w1 → wpList Tryd.prog ops Q rest (a.put o.dst v1) w1) :
    wpList Tryd.prog ops Q (o :: rest) a (W.alloc (.cells #[.int .u8 (n8 y)] 5)) :=
  print_append_num (w0 := w) w.heap.size hgd s x 22 5 .u8 1 ho Tryd.underlying22 info5 (by omega) v (ints al) (n8 y) hs hx HO hE hE.size (by rw [ints_length]; omega)
    (fun v1 w1 hO hB _ _ => h v1 w1 (by rw [show ints al ++ [n8 y] = ints (al ++ [y]) by simp [ints, n8]] at hO; exact hO) hB)
/-- append(v, ys...) -/
theorem ob_row {w W : World} (hgd : o.guard = none) (s x : Operand) (v : Value) (al ys : List UInt8) (A : Option Addr) (c : Nat) (ho : o.op = .call { callee := .builtin .append, args := #[s, x], argTypes := #[22, 22] })
    (hs : a.eval s = v) (hx : a.eval x = .slice A ys.length c) (HO : Ob w.heap.size W v al) (hy : Bs W A ys.length ys) (hE : Ext w W) (hl : al.length + ys.length ≤ 140737488355328)
    (h : ∀ v1 w1, Ob w.heap.size w1 v1 (al ++ ys) → Ext w w1 → wpList Tryd.prog ops Q rest (a.put o.dst v1) w1) :
    wpList Tryd.prog ops Q (o :: rest) a W :=
  print_append_row (w0 := w) w.heap.size hgd s x 22 5 .u8 1 ho Tryd.underlying22 info5 (by omega) v (ints al) (ints ys) A ys.length c hs hx HO hy.reads hE hE.size (by rw [ints_length]; omega)
    (fun v1 w1 hO hB _ _ => h v1 w1 (by rw [show ints al ++ ints ys = ints (al ++ ys) by simp [ints]] at hO; exact hO) hB)
end
def lenV : Value → Nat
  | .slice _ n _ => n
  | _ => 0
theorem Ob.lenV {B : Nat} {w : World} {v : Value} {al : List UInt8} (h : Ob B w v al) : lenV v = al.length := by
  obtain ⟨A, c, rfl, _⟩ := h.open
  rfl
/-- v[i:i+m] of a row of the call's own -/
theorem ob_sub {B : Nat} {w : World} {v : Value} {xs : List UInt8} (h : Ob B w v xs) (i m : Nat) (hi : i + m ≤ xs.length) (hm : 0 < m) :
    ∃ g o c, (∀ W : World, (Instr.slice 22 v (some (.int .i64 (i : Int))) (some (.int .i64 ((i + m : Nat) : Int))) none).run Tryd.prog W = .ok (.slice (some ⟨g, o, none⟩) m c) W) ∧ Bs w (some ⟨g, o, none⟩) m ((xs.drop i).take m) := by
  obtain ⟨A, c, rfl, hc, hb⟩ := h.open
  have hA : ∃ g, A = some ⟨g, 0, none⟩ := by
    rcases h.2 with ⟨he, h0⟩ | ⟨g, cap, cur, he, _⟩
    · rw [ints_length] at h0; omega
    · injection he with ha _ _
      exact ⟨g, ha⟩
  obtain ⟨g, rfl⟩ := hA
  obtain ⟨i5, hi5, _, hsz, _⟩ := i5
  have h1 := hb.take (i + m) hi
  have h2 := h1.drop (c := c) i (by rw [List.length_take]; omega) (by rw [List.length_take]; omega)
  have e : (xs.take (i + m)).drop i = (xs.drop i).take m := by rw [List.drop_take]; congr 1; omega
  have hl : ((xs.drop i).take m).length = m := by simp; omega
  rw [e, hl, if_neg (by omega)] at h2
  rw [Option.map_some, addr_add, Nat.zero_add] at h2
  refine ⟨g, i, c - i, fun W => ?_, h2⟩
  rw [cut_mid 22 5 .i64 .i64 Tryd.underlying22 hi5 1 hsz (some ⟨g, 0, none⟩) xs.length c i ((i + m : Nat) : Int) (by omega) (by omega) (by omega) hc W, Int.toNat_natCast, Int.toNat_natCast, if_neg (by omega), show i + m - i = m by omega, Option.map_some, addr_add, Nat.zero_add, Nat.mul_one]
theorem nums_cells (al : List UInt8) : nums .u8 (ints al) = al.map cell := by simp [nums, ints, cell, n8]
theorem run_app2 {B : Nat} {W : World} (ty : TypeId) {v : Value} {q ys : List UInt8} {A : Option Addr} {c : Nat} (hO : Ob B W v q) (hy : Bs W A ys.length ys) (hB : B ≤ W.heap.size) (hl : q.length + ys.length ≤ 140737488355328) :
    ∃ v1 w1, (Builtin.append_ #[22, 22] ty #[v, .slice A ys.length c]).run Tryd.prog W = .ok v1 w1 ∧ Ob B w1 v1 (q ++ ys) ∧ Below B W w1 ∧ ∀ u q', q'.length ≤ q.length → Ob B W u q' → Ob B w1 u q' := by
  obtain ⟨i, hi, hz, hsz, hby⟩ := i5
  rcases Nat.eq_zero_or_pos ys.length with h0 | h0
  · obtain rfl : ys = [] := List.eq_nil_of_length_eq_zero h0
    refine ⟨v, W, ?_, by simpa using hO, Below.refl _ _, fun u _ _ h => h⟩
    rcases hO.2 with ⟨rfl, hn⟩ | ⟨g, cap, cur, rfl, hb, hh, hnc, hcm, hcs, ht⟩
    · cases A with
      | none => simp [Builtin.append_, run_underlying Tryd.underlying22, sizeOf, typeInfo, hi, Builtin.lenOf, Builtin.firstCells, storeCells]
      | some a => simp [Builtin.append_, run_underlying Tryd.underlying22, sizeOf, typeInfo, hi, Builtin.lenOf, Builtin.firstCells, storeCells, loadCells, loadCellsFrom]
    · cases A with
      | none => simp [Builtin.append_, run_underlying Tryd.underlying22, sizeOf, typeInfo, hi, Builtin.lenOf, Builtin.firstCells, storeCells, hnc]
      | some a => simp [Builtin.append_, run_underlying Tryd.underlying22, sizeOf, typeInfo, hi, Builtin.lenOf, Builtin.firstCells, storeCells, loadCells, loadCellsFrom, hnc]
  · obtain ⟨a, rfl, _⟩ := hy.cells h0
    have hnews : ∀ j u, (nums .u8 (ints ys))[j]? = some u → W.cell? (a.add j) = some u := by rw [nums_cells]; exact cells_of_bs hy
    have hnl : (nums .u8 (ints ys)).length = ys.length := by simp [nums, ints]
    have hql : (ints q).length = q.length := ints_length q
    have hql' : ∀ l : List UInt8, (ints l).length = l.length := ints_length
    have h1 : ∀ u ∈ nums .u8 (ints ys), u.oneCell' = true := by
      intro u hu
      obtain ⟨z, _, rfl⟩ := List.mem_map.1 hu
      rfl
    obtain ⟨v1, w1, hr, hown, hg, _, hat⟩ := run_append_own_at (P := Tryd.prog) W B 22 ty 5 i (.int .u8 0) 1 1 Tryd.underlying22 hi hz hsz hby rfl (by omega) v (ints q).length (nums .u8 (ints q)) hO a ys.length c (nums .u8 (ints ys)) (by rw [hnl, Nat.mul_one]) hnews h1 (by unfold maxLen; omega) (by omega) hB
    have hob : Ob B w1 v1 (q ++ ys) := by
      have e1 : (ints q).length + ys.length = (ints (q ++ ys)).length := by simp [ints]
      have e2 : nums .u8 (ints q) ++ nums .u8 (ints ys) = nums .u8 (ints (q ++ ys)) := by simp [nums, ints]
      rw [e1, e2] at hown
      exact hown
    refine ⟨v1, w1, hr, hob, (Below.refl B W).grown hg hB (own_base hO), fun u q' hq' hu => ?_⟩
    by_cases hne : u.ownBlock = none ∨ v.ownBlock ≠ u.ownBlock
    · refine World.ownsRow.kept hu hg ?_
      rcases hne with h | h
      · exact .inl h
      · exact .inr (fun e => h e.symm)
    · have hub : u.ownBlock ≠ none := fun e => hne (.inl e)
      have hvu : v.ownBlock = u.ownBlock := by
        by_cases h : v.ownBlock = u.ownBlock
        · exact h
        · exact absurd (.inr h) hne
      rcases hu.2 with ⟨rfl, _⟩ | ⟨g, cap, cur, rfl, hb, hh, hnc, hcm, hcs, ht⟩
      · exact absurd rfl hub
      rcases hO.2 with ⟨rfl, _⟩ | ⟨g', cap', cur', rfl, hb', hh', hnc', hcm', hcs', ht'⟩
      · exact absurd hvu.symm hub
      have hgg : g' = g := by simpa [Value.ownBlock] using hvu
      subst hgg
      rw [hh] at hh'
      cases hh'
      obtain rfl : cap = cap' := by omega
      by_cases hroom : (ints q).length + ys.length ≤ cap
      · have hqq := hql' q'
        have hr2 := run_append_room (P := Tryd.prog) W 22 ty 5 i Tryd.underlying22 hi g' (ints q).length cap cur hh a ys.length c (nums .u8 (ints ys)) (by rw [hnl, hsz, Nat.mul_one]) hnews h1 hroom (by rw [hsz, hnl, hcs, Nat.mul_one, Nat.mul_one]; exact hroom)
        rw [hr2] at hr
        injection hr with _ hw
        subst hw
        refine ⟨hu.1, .inr ⟨g', cap, _, rfl, hb, setRow_heap _ _ _ _ _ _ hh, hnc, hcm, ?_, ?_⟩⟩
        · have hcl : cur.toList.length = cap := by simp [hcs]
          rw [hsz, Nat.mul_one, List.size_toArray, List.length_append, List.length_append, List.length_take, List.length_drop, hcl, hnl]
          omega
        · have hcl : cur.toList.length = cap := by simp [hcs]
          show List.take ((ints q').length * 1) (cur.toList.take ((ints q).length * i.size) ++ nums .u8 (ints ys) ++ _) = _
          rw [hsz, Nat.mul_one, List.append_assoc, List.take_append_of_le_length (by rw [List.length_take, hcl]; omega), List.take_take, Nat.min_eq_left (by omega)]
          rw [Nat.mul_one] at ht
          exact ht
      · have hr2 := run_append_grow (P := Tryd.prog) W 22 ty 5 i (.int .u8 0) Tryd.underlying22 hi hz ⟨g', 0, none⟩ (ints q).length cap (nums .u8 (ints q)) (by rw [hsz, Nat.mul_one, nums_length]) (fun j u' hu' => hO.cells (g := g') rfl j u' hu') a ys.length c (nums .u8 (ints ys)) (by rw [hnl, hsz, Nat.mul_one]) hnews (by omega) (by omega) (growslice_fits (by omega) (by rw [hby]; omega))
        rw [hr2] at hr
        injection hr with _ hw
        subst hw
        exact Ob.ext hu (((Ext.refl W).drew).alloc _)
theorem Ob.lower {B B' : Nat} {w : World} {v : Value} {al : List UInt8} (h : Ob B w v al) (hle : B' ≤ B) : Ob B' w v al := own_less h hle
/-- append onto an empty row without room: new memory, or nothing at all -/
theorem run_copyOb {B b : Nat} {W : World} (ty : TypeId) {ys : List UInt8} {A : Option Addr} {c : Nat} (hO : Ob B W (.slice (some ⟨b, 0, none⟩) 0 0) []) (hy : Bs W A ys.length ys) (hB : B ≤ W.heap.size) (hl : ys.length ≤ 100000000000000) :
    ∃ v1 w1, (Builtin.append_ #[22, 22] ty #[.slice (some ⟨b, 0, none⟩) 0 0, .slice A ys.length c]).run Tryd.prog W = .ok v1 w1 ∧ Ext W w1 ∧ Ob B w1 v1 ys := by
  obtain ⟨i, hi, hz, hsz, hby⟩ := i5
  rcases Nat.eq_zero_or_pos ys.length with h0 | h0
  · obtain rfl : ys = [] := List.eq_nil_of_length_eq_zero h0
    refine ⟨_, W, ?_, Ext.refl W, hO⟩
    cases A with
    | none => simp [Builtin.append_, run_underlying Tryd.underlying22, sizeOf, typeInfo, hi, Builtin.lenOf, Builtin.firstCells, storeCells]
    | some a => simp [Builtin.append_, run_underlying Tryd.underlying22, sizeOf, typeInfo, hi, Builtin.lenOf, Builtin.firstCells, storeCells, loadCells, loadCellsFrom]
  · obtain ⟨v1, w1, hr, hO1, _⟩ := run_app2 ty (c := c) hO hy hB (by simp; omega)
    obtain ⟨a, rfl, _⟩ := hy.cells h0
    refine ⟨v1, w1, hr, ?_, by simpa using hO1⟩
    have hnl : (nums .u8 (ints ys)).length = ys.length := by simp [nums, ints]
    have hr2 := run_append_grow (P := Tryd.prog) W 22 ty 5 i (.int .u8 0) Tryd.underlying22 hi hz ⟨b, 0, none⟩ 0 0 [] (by simp) (fun j u hu => by simp at hu) a ys.length c (nums .u8 (ints ys)) (by rw [hnl, hsz, Nat.mul_one]) (by rw [nums_cells]; exact cells_of_bs hy) (by omega) (by omega) (growslice_fits (by omega) (by rw [hby]; omega))
    rw [hr2] at hr
    injection hr with _ hw
    subst hw
    exact ((Ext.refl W).drew).alloc _
theorem cut_cap (t e : TypeId) (kh : IntKind) {i : TypeInfo} (ht : Tryd.prog.underlying t = some (.slice e)) (hi : Tryd.prog.info? e = some i) (A : Option Addr) (n c : Nat) (j : Int) (h0 : 0 ≤ j) (hm : j ≤ c) :
    ∀ W : World, (Instr.slice t (.slice A n c) none (some (.int kh j)) none).run Tryd.prog W = .ok (.slice A j.toNat c) W := by
  intro W
  have hel : Tryd.prog.elem t = e := by simp [Program.elem, ht]
  have hu : Tryd.prog.underlying t = some (.slice (Tryd.prog.elem t)) := by rw [hel]; exact ht
  have ha : (A.map fun x => x.add 0) = A := by cases A <;> simp [Addr.add]
  rw [run_slice_h W t A n c hu kh j h0 (by omega), hel]
  simp [sizeOf, typeInfo, hi, sliced, Result.andThen, ha]
theorem exec_conv {w : World} {ρ : Operand → Value} {o : Oper} {x : Operand} {t u : TypeId} (ho : o.op = .convert t u x) {v : Value} {w1 : World} (h : (convert t u (ρ x)).run Tryd.prog w = .ok v w1) : (execOp ρ o).run Tryd.prog w = .ok (.value v) w1 := by
  unfold execOp; rw [ho]; simp [h]
theorem conv_str {w : World} {A : Option Addr} {n c : Nat} {xs : List UInt8} (h : Bs w A n xs) : (convert 22 9 (.slice A n c)).run Tryd.prog w = .ok (.string (strB xs)) w := by
  rw [← strOf_strB]; exact Kd.C_string Tryd.underlying22 Tryd.underlying5 Tryd.underlying9 h
theorem Bs.take' {w : World} {A : Option Addr} {xs : List UInt8} (h : Bs w A xs.length xs) (m : Nat) : Bs w A (xs.take m).length (xs.take m) := by
  by_cases hm : m ≤ xs.length
  · exact h.take m hm
  · rw [List.take_of_length_le (by omega)]; exact h
theorem wantedFree {o : Oper} (h : o.guard = none) (y : Nat → Option Bool) : Region.wanted o y = true := by
  unfold Region.wanted; rw [h]
theorem exec_store {w w1 : World} {ρ : Operand → Value} {o : Oper} {t : TypeId} {x y : Operand} (ho : o.op = .store t x y) (h : (Instr.storeAt t (ρ x) (ρ y)).run Tryd.prog w = .ok () w1) : (execOp ρ o).run Tryd.prog w = .ok .skip w1 := by
  unfold execOp; rw [ho]; simp [h]
theorem Ob.shape {B : Nat} {w : World} {v : Value} {al : List UInt8} (h : Ob B w v al) : ∃ A c, v = .slice A al.length c ∧ al.length ≤ c ∧ Bs w A al.length al ∧ ∀ ad, A = some ad → B ≤ ad.block := by
  obtain ⟨A, c, e, hc, hb⟩ := h.open
  refine ⟨A, c, e, hc, hb, fun ad ha => own_base h ad.block ?_⟩
  rw [e, ha]
  rfl
def Sp3 (B : Nat) (q : List UInt8) (w w' : World) : Prop := Below B w w' ∧ ∀ u q', q'.length ≤ q.length → Ob B w u q' → Ob B w' u q'
/-- the step s writes behind the bytes q of a row of the region's own; every other step makes at most new memory -/
def Rel3 (s B : Nat) (q : List UInt8) (i : Nat) (w w' : World) : Prop := if i = s then Sp3 B q w w' else Ext w w'
section
variable {s B : Nat} {q : List UInt8} {i : Nat}
theorem rel3_ne (h : i ≠ s) : Rel3 s B q i = Ext := by funext w w'; simp [Rel3, h]
theorem rel3_self : Rel3 s B q s = Sp3 B q := by funext w w'; simp [Rel3]
theorem rel3_refl (i : Nat) (w : World) : Rel3 s B q i w w := by
  by_cases h : i = s
  · subst h; rw [rel3_self]; exact ⟨Below.refl _ _, fun _ _ _ h => h⟩
  · rw [rel3_ne h]; exact Ext.refl w
theorem rel3_ob {w w' : World} {u : Value} {q' : List UInt8} (hR : Rel3 s B q i w w') (hl : q'.length ≤ q.length) (h : Ob B w u q') : Ob B w' u q' := by
  by_cases hi : i = s
  · subst hi; rw [rel3_self] at hR; exact hR.2 u q' hl h
  · rw [rel3_ne hi] at hR; exact h.ext hR
theorem rel3_ext {w0 w w' : World} (hB : B = w0.heap.size) (h : Ext w0.drew w) (hR : Rel3 s B q i w w') : Ext w0.drew w' := by
  by_cases hi : i = s
  · subst hi; rw [rel3_self] at hR
    have := hR.1
    rw [hB] at this
    exact Below.trans h this
  · rw [rel3_ne hi] at hR; exact h.trans hR
end
theorem Ob.of_row {B b : Nat} {w : World} {xs : List UInt8} (h : Row w b (xs.map cell) 5) (hB : B ≤ b) (hl : xs.length ≤ 9223372036854775807) : Ob B w (.slice (some ⟨b, 0, none⟩) xs.length xs.length) xs := by
  refine ⟨by simp [nums, ints], .inr ⟨b, xs.length, (xs.map cell).toArray, by rw [ints_length], hB, h, by rw [ints_length]; exact Nat.le_refl _, hl, by simp, ?_⟩⟩
  rw [nums_cells, ints_length, Nat.mul_one]
  show List.take xs.length (xs.map cell) = _
  exact List.take_of_length_le (by simp)
theorem calls_world {P : Program} {f : FuncId} {args : Array Value} {w : World} {Q : Ending → World → Prop} (F : World → Prop) (h : F w) (k : ∀ w, F w → Calls P f args w Q) : Calls P f args w Q := k w h
/-- append onto a full row of the call's own: new memory -/
theorem run_onto {B b : Nat} {W : World} (ty : TypeId) {q ys : List UInt8} {ad : Addr} {c : Nat} (hR : Row W b (q.map cell) 5) (hBb : B ≤ b) (hq : q.length = 64) (hy : Bs W (some ad) ys.length ys) (hpos : 0 < ys.length) (hl : ys.length ≤ 100000000000000) (hB : B ≤ W.heap.size) :
    ∃ v1 w1, (Builtin.append_ #[22, 22] ty #[.slice (some ⟨b, 0, none⟩) 64 64, .slice (some ad) ys.length c]).run Tryd.prog W = .ok v1 w1 ∧ Ob B w1 v1 (q ++ ys) ∧ Ext W w1 := by
  obtain ⟨i, hi, hz, hsz, hby⟩ := i5
  have hO : Ob B W (.slice (some ⟨b, 0, none⟩) 64 64) q := by have := Ob.of_row hR hBb (by omega); rwa [hq] at this
  obtain ⟨v1, w1, hr, hO1, _⟩ := run_app2 ty (c := c) hO hy hB (by omega)
  refine ⟨v1, w1, hr, hO1, ?_⟩
  have hnl : (nums .u8 (ints ys)).length = ys.length := by simp [nums, ints]
  have hr2 := run_append_grow (P := Tryd.prog) W 22 ty 5 i (.int .u8 0) Tryd.underlying22 hi hz ⟨b, 0, none⟩ 64 64 (q.map cell) (by rw [hsz, List.length_map, hq]) (fun j u hu => by rw [addr_add]; exact hR.cell (by simpa using hu)) ad ys.length c (nums .u8 (ints ys)) (by rw [hnl, hsz, Nat.mul_one]) (by rw [nums_cells]; exact cells_of_bs hy) (by omega) (by omega) (growslice_fits (by omega) (by rw [hby]; omega))
  rw [hr2] at hr
  injection hr with _ hw
  subst hw
  exact ((Ext.refl W).drew).alloc _
end Go.Proofs.YthiedcebneejjaaDoor
set_option linter.unusedVariables false
set_option linter.unusedSimpArgs false
namespace Go.Proofs.YthiedcebneejjaaDoor
open Go.RowKit Go.Proofs.YthiedcebneejjaaDoorW.PrintWords Go.Proofs.YthiedcebneejjaaDoorW.PrintLast Go.Proofs.YthiedcebneejjaaDoorW.PrintMore
open Extern.Stop (cell)

/-- all but the blocks of S, and new ones, is as it was -/
structure KB (w w' : World) (S : Nat → Prop) : Prop where
  os : w'.os = w.os
  tape : w'.tape = w.tape
  output : w'.output = w.output
  size : w.heap.size ≤ w'.heap.size
  block : ∀ k, k < w.heap.size → ¬ S k → w'.heap[k]? = w.heap[k]?
theorem KB.refl (w : World) (S : Nat → Prop) : KB w w S := ⟨rfl, rfl, rfl, Nat.le_refl _, fun _ _ _ => rfl⟩
theorem KB.grown {w wr w' : World} {S : Nat → Prop} {row : Option Nat} (h : KB w wr S) (hg : wr.grownBy w' row) (hr : ∀ k, row = some k → S k ∨ w.heap.size ≤ k) : KB w w' S :=
  ⟨hg.os.trans h.os, hg.tape.trans h.tape, hg.output.trans h.output, Nat.le_trans h.size hg.size, fun k hk hs => (hg.block k (Nat.lt_of_lt_of_le hk h.size) (fun e => by
    rcases hr k e.symm with h1 | h1
    · exact hs h1
    · omega)).trans (h.block k hk hs)⟩
theorem KB.ext {w wr w' : World} {S : Nat → Prop} (h : KB w wr S) (hE : Ext wr w') : KB w w' S :=
  ⟨hE.os.trans h.os, hE.tape.trans h.tape, hE.output.trans h.output, Nat.le_trans h.size hE.size, fun k hk hs => (hE.block k (Nat.lt_of_lt_of_le hk h.size)).trans (h.block k hk hs)⟩
theorem KB.below {w0 w w' : World} {S : Nat → Prop} {B : Nat} (h : KB w w' S) (hb : Below B w0 w) (hB : B ≤ w.heap.size) (hS : ∀ k, S k → B ≤ k) : Below B w0 w' :=
  ⟨h.os.trans hb.os, h.tape.trans hb.tape, h.output.trans hb.output, Nat.le_trans hb.size h.size, fun k hk => (h.block k (by omega) (fun hs => by have := hS k hs; omega)).trans (hb.block k hk)⟩
/-- the rows of two slices are apart -/
def Sep (u v : Value) : Prop := ∀ k, u.ownBlock = some k → v.ownBlock ≠ some k
theorem Sep.symm {u v : Value} (h : Sep u v) : Sep v u := fun k hk hu => h k hu hk
theorem Ob.grown {B : Nat} {w w' : World} {v : Value} {al : List UInt8} {row : Option Nat} (h : Ob B w v al) (hg : w.grownBy w' row) (hne : ∀ k, v.ownBlock = some k → row ≠ some k) : Ob B w' v al := World.ownsRow.kept h hg (by
  cases hb : v.ownBlock with
  | none => exact .inl rfl
  | some k => exact .inr (fun e => hne k hb (by rw [← e])))
theorem Ob.lt {B : Nat} {w : World} {v : Value} {al : List UInt8} (h : Ob B w v al) (k : Nat) (hk : v.ownBlock = some k) : k < w.heap.size := own_lt h k hk
theorem Ob.row_ne {B g : Nat} {w : World} {v : Value} {al : List UInt8} {L : List Value} (h : Ob B w v al) (hr : Row w g L 22) (k : Nat) (hk : v.ownBlock = some k) : k ≠ g := by
  rintro rfl
  obtain ⟨cells, hc⟩ := own_typed h k hk
  unfold Row at hr
  rw [hr] at hc
  injection hc with hc
  injection hc with _ hc
  cases hc
theorem Only.to_grown {w w' : World} {g : Nat} (h : Only w g w') : w.grownBy w' (some g) := ⟨h.os, h.tape, h.output, h.size, fun k hk hne => h.block k hk (fun e => hne (by rw [e]))⟩
/-- append(v, y): what it leaves -/
theorem run_push {B : Nat} {W : World} (ty : TypeId) {v : Value} {q : List UInt8} {y : UInt8} {c : Nat} {ad : Addr} (hO : Ob B W v q) (hy : Bs W (some ad) 1 [y]) (hB : B ≤ W.heap.size) (hl : q.length + 1 ≤ 140737488355328) :
    ∃ v1 w1, (Builtin.append_ #[22, 22] ty #[v, .slice (some ad) 1 c]).run Tryd.prog W = .ok v1 w1 ∧ Ob B w1 v1 (q ++ [y]) ∧ W.grownBy w1 v.ownBlock ∧ (v1.ownBlock = v.ownBlock ∨ v1.ownBlock = some W.heap.size) ∧ ∀ u q', q'.length ≤ q.length → Ob B W u q' → Ob B w1 u q' := by
  obtain ⟨v1, w1, hr, h1, h2, h3⟩ := run_app2 ty (c := c) hO (show Bs W (some ad) [y].length [y] from hy) hB (by simpa using hl)
  obtain ⟨i, hi, hz, hsz, hby⟩ := i5
  have hql : (ints q).length = q.length := ints_length q
  obtain ⟨v2, w2, hr2, _, hg, _, hat⟩ := run_append_own_at (P := Tryd.prog) W B 22 ty 5 i (.int .u8 0) 1 1 Tryd.underlying22 hi hz hsz hby rfl (by omega) v (ints q).length (nums .u8 (ints q)) hO ad 1 c (nums .u8 (ints [y])) (by simp [nums, ints]) (by rw [nums_cells]; exact cells_of_bs hy) (by intro u hu; obtain ⟨z, _, rfl⟩ := List.mem_map.1 hu; rfl) (by unfold maxLen; omega) (by omega) hB
  rw [show ([y] : List UInt8).length = 1 from rfl] at hr
  rw [hr] at hr2
  injection hr2 with e1 e2
  subst e1 e2
  exact ⟨v1, w1, hr, h1, hg, hat, h3⟩
theorem i22 : ∃ i : TypeInfo, Tryd.prog.info? 22 = some i ∧ i.zero = some (.slice none 0 0) ∧ i.size = 1 ∧ i.bytes = 24 := by
  have h : (Tryd.prog.info? 22).map (fun i => (i.zero, i.size, i.bytes)) = some (some (.slice none 0 0), 1, 24) := by kernel_rfl
  cases hi : Tryd.prog.info? 22 with
  | none => rw [hi] at h; cases h
  | some i => rw [hi] at h; simp at h; exact ⟨i, rfl, h.1, h.2.1, h.2.2⟩
/-- append(longer, x): what it leaves -/
theorem run_more {B : Nat} {W : World} (ty : TypeId) {v y : Value} {ys : List Value} {c g : Nat} (hO : W.ownsRow B 22 1 v ys.length ys) (hy : W.cell? ⟨g, 0, none⟩ = some y) (hy1 : y.oneCell' = true) (hB : B ≤ W.heap.size) (hl : ys.length ≤ 1000) :
    ∃ v1 w1, (Builtin.append_ #[42, 42] ty #[v, .slice (some ⟨g, 0, none⟩) 1 c]).run Tryd.prog W = .ok v1 w1 ∧ w1.ownsRow B 22 1 v1 (ys ++ [y]).length (ys ++ [y]) ∧ W.grownBy w1 v.ownBlock := by
  obtain ⟨i, hi, hz, hsz, hby⟩ := i22
  obtain ⟨v2, w2, hr2, h1, hg, _, hat⟩ := run_append_own_at (P := Tryd.prog) W B 42 ty 22 i (.slice none 0 0) 1 24 Tryd.underlying42 hi hz hsz hby rfl (by omega) v ys.length ys hO ⟨g, 0, none⟩ 1 c [y] (by simp) (fun j u hu => by
    match j, hu with
    | 0, hu => simp at hu; subst hu; rw [addr_add]; exact hy
    | j + 1, hu => simp at hu) (by intro u hu; simp at hu; subst hu; exact hy1) (by unfold maxLen; omega) (by omega) hB
  exact ⟨v2, w2, hr2, by simpa using h1, hg⟩
def vs6 (v : Nat → Value) : List Value := [v 0, v 1, v 2, v 3, v 4, v 5]
theorem vs6_at (v : Nat → Value) (i : Nat) (h : i < 6) : (vs6 v)[i]? = some (v i) := by
  match i, h with
  | 0, _ | 1, _ | 2, _ | 3, _ | 4, _ | 5, _ => rfl
def fl (i n : Nat) : List UInt8 := List.replicate n (UInt8.ofNat (i + 1))
theorem fl_length (i n : Nat) : (fl i n).length = n := by simp [fl]
theorem fl_snoc (i n : Nat) : fl i n ++ [UInt8.ofNat (i + 1)] = fl i (n + 1) := by simp [fl, List.replicate_succ']
theorem fl_at (i n j : Nat) (h : j < n) : (fl i n).getD j 0 = UInt8.ofNat (i + 1) := by simp [fl, List.getD, h]
theorem n8_of (i : Nat) (h : i < 6) : n8 (UInt8.ofNat (i + 1)) = (i : Int) + 1 := by unfold n8; rw [UInt8.toNat_ofNat']; omega
structure ApS (B : Nat) (w : World) (LB : Nat) (v : Nat → Value) (X : Nat → List UInt8) : Prop where
  hdr : Row w LB (vs6 v) 22
  own : ∀ i, i < 6 → Ob B w (v i) (X i)
  sep : ∀ i j, i < 6 → j < 6 → i ≠ j → Sep (v i) (v j)
  hB : B ≤ LB
section
variable {B LB : Nat} {w w' : World} {v : Nat → Value} {X : Nat → List UInt8}
def blocksOf (v : Nat → Value) (k : Nat) : Prop := ∃ i, i < 6 ∧ (v i).ownBlock = some k
theorem ApS.ext (h : ApS B w LB v X) (hE : Ext w w') : ApS B w' LB v X := ⟨h.hdr.ext hE, fun i hi => (h.own i hi).ext hE, h.sep, h.hB⟩
theorem row_grown {g : Nat} {L : List Value} {t : TypeId} {row : Option Nat} (h : Row w g L t) (hg : w.grownBy w' row) (hne : row ≠ some g) : Row w' g L t := by
  unfold Row; rw [hg.block g h.lt (fun e => hne e.symm)]; exact h
theorem ApS.grown {row : Option Nat} (h : ApS B w LB v X) (hg : w.grownBy w' row) (hne : ∀ k, row = some k → k ≠ LB ∧ ∀ i, i < 6 → (v i).ownBlock ≠ some k) : ApS B w' LB v X :=
  ⟨row_grown h.hdr hg (fun e => (hne LB e).1 rfl), fun i hi => (h.own i hi).grown hg (fun k hk e => (hne k e).2 i hi hk), h.sep, h.hB⟩
/-- a byte of row i is written -/
theorem ApS.put {i j g n c : Nat} {y : UInt8} (h : ApS B w LB v X) (hi : i < 6) (hv : v i = .slice (some ⟨g, 0, none⟩) n c) (hj : j < (X i).length) :
    w.cell? ⟨g, j, none⟩ = some (.int .u8 (n8 ((X i).getD j 0))) ∧ w.frozen? ⟨g, j, none⟩ = false ∧ ApS B (w.setCell ⟨g, j, none⟩ (.int .u8 (n8 y))) LB v (fun m => if m = i then (X i).set j y else X m) ∧ w.grownBy (w.setCell ⟨g, j, none⟩ (.int .u8 (n8 y))) (some g) := by
  have ho := h.own i hi
  have hgb : (v i).ownBlock = some g := by rw [hv]; rfl
  have hgL : g ≠ LB := ho.row_ne h.hdr g hgb
  have hst : (w.setCell ⟨g, j, none⟩ (.int .u8 (n8 y))).ownsRow B 5 1 (.slice (some ⟨g, 0, none⟩) n c) (ints (X i)).length ((nums .u8 (ints (X i))).set j (.int .u8 (n8 y))) ∧ w.grownBy (w.setCell ⟨g, j, none⟩ (.int .u8 (n8 y))) (some g) := by
    unfold Ob at ho
    rw [hv] at ho
    have hn : n = (ints (X i)).length := by
      rcases ho.2 with ⟨h1, _⟩ | ⟨_, _, _, h1, _⟩
      · cases h1
      · injection h1
    rw [hn] at ho ⊢
    exact World.ownsRow.stored ho j (.int .u8 (n8 y))
  have hne : (nums .u8 (ints (X i))).set j (.int .u8 (n8 y)) = nums .u8 (ints ((X i).set j y)) := by rw [nums_cells, nums_cells]; rw [List.map_set]; rfl
  refine ⟨?_, ?_, ⟨h.hdr.other _ _ (fun e => hgL e.symm), fun m hm => ?_, h.sep, h.hB⟩, hst.2⟩
  · unfold Ob at ho
    rw [hv] at ho
    have hc := World.ownsRow.cells ho (g := g) rfl j (.int .u8 (n8 ((X i).getD j 0))) (by rw [nums_cells]; simp [hj, List.getD, cell, n8])
    rwa [addr_add, Nat.zero_add] at hc
  · obtain ⟨cells, hc⟩ := own_typed ho g hgb
    simp [World.frozen?, hc]
  · by_cases hmi : m = i
    · subst hmi
      simp only [if_true]
      have h1 := hst.1
      rw [hne] at h1
      unfold Ob
      rw [hv]
      have hl : (ints ((X m).set j y)).length = (ints (X m)).length := by simp [ints]
      rw [hl]
      exact h1
    · simp only [if_neg hmi]
      exact (h.own m hm).grown hst.2 (fun k hk e => by injection e with e; subst e; exact h.sep m i hm hi hmi _ hk hgb)
end
end Go.Proofs.YthiedcebneejjaaDoor
set_option linter.unusedVariables false
set_option linter.unusedSimpArgs false
namespace Go.Proofs.YthiedcebneejjaaDoorW.PrintMore
open Go.RowKit Go.Proofs.YthiedcebneejjaaDoorW.PrintWords Go.Proofs.YthiedcebneejjaaDoorW.PrintLast
section
variable {α : Type} {P : Program} {ops : Array Oper} {rest : List Oper} {o : Oper} {a : Act} {Q : Exit → Act → World → Prop}
theorem R_make0 (d : Kd α) {w0 W : World} (base e : Nat) (hgd : o.guard = none) {N : Tmp} (_hd : o.dst = some N) (t : TypeId) (x y : Operand) (ho : o.op = .makeSlice t x y) (m : Int) (hx : a.eval x = .int .i64 0) (hy : a.eval y = .int .i64 m)
    (ht : P.underlying t = some (.slice e)) (z : Value) (bytes : Nat) (hinfo : (P.info? e).map (fun i => (i.zero, i.size, i.bytes)) = some (some z, d.sz, bytes)) (hz : z.cells.size = d.sz) (hs0 : 0 < d.sz) (hb0 : 0 < bytes)
    {ok okp : Nat → Prop} (_hok : ∀ k, okp k → ok k) (hfresh : ok W.heap.size) (h0 : 0 ≤ m) (hl : m.toNat * bytes ≤ 281474976710656) (HB : Below base w0 W) (hbase : base ≤ W.heap.size)
    (h : ∀ v1 w1, d.R e w1 base ok v1 [] → Below base w0 w1 → W.grownBy w1 none → (∃ b, v1.ownBlock = some b ∧ W.heap.size ≤ b) → wpList P ops Q rest (a.put o.dst v1) w1) : wpList P ops Q (o :: rest) a W := by
  obtain ⟨m, rfl⟩ := Int.eq_ofNat_of_zero_le h0
  simp only [Int.toNat_natCast] at hl
  obtain ⟨i0, hi, hzz⟩ := Option.map_eq_some_iff.1 hinfo
  simp only [Prod.mk.injEq] at hzz
  obtain ⟨hz0, hz1, hz2⟩ := hzz
  have hm : m ≤ 281474976710656 := Nat.le_trans (Nat.le_mul_of_pos_right _ hb0) hl
  have hr := run_make (P := P) W t e i0 z ht hi hz0 .i64 .i64 0 (m : Int) (by omega) (by omega)
    (by
      have h3 : ((i0.bytes * m : Nat) : Int) ≤ 281474976710656 := by rw [hz2, Nat.mul_comm]; omega
      rwa [Int.natCast_mul] at h3) (by omega)
  simp only [Int.toNat_natCast, Int.toNat_zero] at hr
  rw [hz1] at hr
  have hrun : (execOp a.eval o).run P W = .ok (.value (.slice (some ⟨W.heap.size, 0, none⟩) 0 m)) (W.alloc (.cells (madeCells z.cells (m * d.sz)) e)) := by
    simp [execOp, ho, hx, hy, hr]
  refine Kd.event_run hgd hrun (h _ _ ⟨fun k hk => ?_, [], ?_, Reps.none _ _⟩ (HB.alloc hbase _) (World.grownBy_alloc W _ none) ⟨W.heap.size, by simp [Value.ownBlock], Nat.le_refl _⟩)
  · have : W.heap.size = k := by simpa [Value.ownBlock] using hk
    subst this
    exact hfresh
  · refine ⟨by simp, .inr ⟨W.heap.size, m, _, rfl, hbase, heap_alloc_new W _, by simp, by unfold maxLen; omega, ?_, by simp⟩⟩
    simp [madeCells]
end
end Go.Proofs.YthiedcebneejjaaDoorW.PrintMore
-- Printed by a program of mine (myprint.py, a patched call of the kit's printer) for this claim; not trusted: Lean checks it.
namespace Go.Proofs.YthiedcebneejjaaDoor.R
open Go.RowKit  Go.Proofs.YthiedcebneejjaaDoorW.PrintWords Go.Proofs.YthiedcebneejjaaDoorW.PrintLast Go.Proofs.YthiedcebneejjaaDoorW.PrintMore
attribute [local go_sem] max2_int min2_int max_two min_two max_three min_three max_four min_four   -- for this text's walks alone
set_option linter.unusedVariables false
set_option linter.unusedSimpArgs false



def errW : Option Int → Value
  | none => .nilIface
  | some c => .iface 0 (.int .i64 c)
theorem errW_none : errW none = .nilIface := rfl
theorem errW_some (c : Int) : errW (some c) = .iface 0 (.int .i64 c) := rfl

theorem info5 : (Tryd.prog.info? 5).map (fun i => (i.zero, i.size, i.bytes)) = some (some (.int .u8 0), 1, 1) := by kernel_rfl
theorem info22 : (Tryd.prog.info? 22).map (fun i => (i.zero, i.size, i.bytes)) = some (some (.slice none 0 0), 1, 24) := by kernel_rfl
-- the values' own types
def rd_L1 (xs : List (List Int)) (i : Int) : (List Int) := xs.getD i.toNat ([] : List Int)
theorem at_L1 {w : World} {A : Option Addr} {n : Nat} {xs : List (List Int)} (h : Kd.C (Kd.slice 5 (Kd.int .u8)) w A n xs) (i : Int) (h0 : 0 ≤ i) (h1 : i < n) : ∃ ad A0 c0, A = some ad ∧ w.cell? (ad.add i.toNat) = some (.slice A0 (rd_L1 xs i).length c0) ∧ (rd_L1 xs i).length ≤ c0 ∧ (Kd.int .u8).C w A0 (rd_L1 xs i).length (rd_L1 xs i) := by
  obtain ⟨ad, c, e, _, hK, hc0⟩ := Kd.C_get h ([] : List Int) i h0 h1
  have hc : ∀ j u, c[j]? = some u → w.cell? (ad.add (i.toNat * 1 + j)) = some u := hc0
  obtain ⟨A0, c0, rfl, l0, g0⟩ := hK
  exact ⟨ad, A0, c0, e, by have hq := hc 0 _ rfl; rwa [Nat.mul_one, Nat.add_zero] at hq, l0, g0⟩

end Go.Proofs.YthiedcebneejjaaDoor.R
-- Printed by a program of mine (myprint.py, a patched call of the kit's printer) for this claim; not trusted: Lean checks it.
namespace Go.Proofs.YthiedcebneejjaaDoor.R
open Go.RowKit  Go.Proofs.YthiedcebneejjaaDoorW.PrintWords Go.Proofs.YthiedcebneejjaaDoorW.PrintLast Go.Proofs.YthiedcebneejjaaDoorW.PrintMore
attribute [local go_sem] max2_int min2_int max_two min_two max_three min_three max_four min_four   -- for this text's walks alone
set_option linter.unusedVariables false
set_option linter.unusedSimpArgs false

-- function 7 (octet_Bytes): by hand

-- function 8 (octet_Unhex): by hand

-- function 10 (octet_Nibbles): by hand

-- function 11 (octet_Hex): by hand

-- function 17 (octet_Common): by hand

-- function 12 (octet_Compare): by hand

/-! ### cairnref01_Common: function 18 -/
def cairnref01_Common.l0 : Nat → List Int → List Int → Int → Option (Int)
  | 0, _, _, _ => none
  | k + 1, x0, x1, x5 => if x5 < (x0.length : Int) then (if x5 < (x1.length : Int) then (if 0 ≤ x5 then (if (rd x0 x5) = (rd x1 x5) then (cairnref01_Common.l0 k x0 x1 (wrap64 (x5 + 1))) else (some x5)) else (none)) else (some x5)) else (some x5)
def cairnref01_Common.f (k : Nat) (l0 : List Int) (l1 : List Int) : Option (Int) := cairnref01_Common.l0 k l0 l1 0
theorem cairnref01_Common.mono_l : ∀ k, (∀ y0 y1 y2, LeO (cairnref01_Common.l0 k y0 y1 y2) (cairnref01_Common.l0 (k + 1) y0 y1 y2))
  | 0 => fun _ _ _ r h => by simp [cairnref01_Common.l0] at h
  | k + 1 => by
    have ih0 := cairnref01_Common.mono_l k
    · intro y0 y1 y2
      unfold cairnref01_Common.l0
      repeat' first
      | (with_reducible exact ih0 _ _ _)
      | (with_reducible exact LeO.refl _)
      | (with_reducible exact LeO.none _)
      | (with_reducible refine LeO.ite ?_ ?_)
      | (with_reducible refine LeO.bind ?_ (fun _ => ?_))
      | exact ih0 _ _ _
      | exact LeO.none _
      | refine LeO.ite ?_ ?_
      | refine LeO.bind ?_ (fun _ => ?_)
theorem cairnref01_Common.mono : ∀ a0 a1 k, LeO (cairnref01_Common.f k a0 a1) (cairnref01_Common.f (k + 1) a0 a1) := by
  intro a0 a1 k
  have ih0 := cairnref01_Common.mono_l k
  unfold cairnref01_Common.f
  repeat' first
      | (with_reducible exact ih0 _ _ _)
      | (with_reducible exact LeO.refl _)
      | (with_reducible exact LeO.none _)
      | (with_reducible refine LeO.ite ?_ ?_)
      | (with_reducible refine LeO.bind ?_ (fun _ => ?_))
      | exact ih0 _ _ _
      | exact LeO.none _
      | refine LeO.ite ?_ ?_
      | refine LeO.bind ?_ (fun _ => ?_)
set_option maxHeartbeats 8000000 in
set_option maxRecDepth 100000 in
theorem cairnref01_Common.calls (k : Nat) (A0 : Option Addr) (c0 : Nat) (l0 : List Int) (A1 : Option Addr) (c1 : Nat) (l1 : List Int) (r : Int) (w : World) (hr0 : Kd.C (Kd.int .u8) w A0 l0.length l0) (hc0 : l0.length ≤ c0) (hr1 : Kd.C (Kd.int .u8) w A1 l1.length l1) (hc1 : l1.length ≤ c1) (h : cairnref01_Common.f k l0 l1 = some r) :
    Calls Tryd.prog 18 #[.slice A0 l0.length c0, .slice A1 l1.length c1] w fun e w' => e = .returned (.int .i64 r) ∧ Drawn0 w w' := by
  have HR0 := Aside0.mk hr0
  have HC0 := Aside0.mk hc0
  clear hr0 hc0
  have HR1 := Aside0.mk hr1
  have HC1 := Aside0.mk hc1
  clear hr1 hc1
  have H : (cairnref01_Common.l0 k l0 l1 0) = some r := h
  clear h
  have H' := Aside0.mk H
  clear H
  go_enter Tryd.func18, Tryd.ntmps18
  go_wp2
  repeat (go_quiet (fail); try go_wp2)
  go_loopg [5] k (fun kq v5 w' => ∃ (x5_1 : Int), v5 = .int .i64 x5_1 ∧ Aside0 (cairnref01_Common.l0 kq l0 l1 x5_1 = some r) ∧ Aside0 (kq ≤ k) ∧ Drawn0 w w')
  case atStart => exact ⟨(0), (by first | rfl | (simp; done) | (simp [*]; done)), H', ⟨Nat.le_refl _⟩, by repeat (first | exact Drawn0.refl _ | apply Drawn0.step)⟩
  case round =>
    clear H'
    try clear c1
    try clear p2
    obtain ⟨x5_1, rfl, HA, HK1, ⟨m1, rfl⟩⟩ := hrel
    cases gk with
    | zero => exact absurd HA.out (by simp [cairnref01_Common.l0])
    | succ k1 =>
      have H := HA.out
      clear HA
      simp only [cairnref01_Common.l0] at H
      by_cases c3 : x5_1 < (l0.length : Int)
      · rw [if_pos c3] at H
        have c3b0 : decide (x5_1 < (l0.length : Int)) = true := decide_eq_true c3
        clear c3
        by_cases c4 : x5_1 < (l1.length : Int)
        · rw [if_pos c4] at H
          have c4b0 : decide (x5_1 < (l1.length : Int)) = true := decide_eq_true c4
          clear c4
          by_cases c5 : 0 ≤ x5_1
          · rw [if_pos c5] at H
            have c5b0 : decide (0 ≤ x5_1) = true := decide_eq_true c5
            clear c5
            by_cases c6 : (rd l0 x5_1) = (rd l1 x5_1)
            · rw [if_pos c6] at H
              have c6b0 : ((rd l0 x5_1) == (rd l1 x5_1)) = true := beq_iff_eq.mpr c6
              have c6b1 : ((rd l0 x5_1) != (rd l1 x5_1)) = false := bne_eq_false_iff_eq.mpr c6
              clear c6
              have H' := Aside0.mk H
              clear H
              have p101 : 0 ≤ (x5_1 : Int) := of_decide_eq_true (by first | (with_reducible assumption) | assumption)
              have q101 : x5_1 < (l0.length : Int) := of_decide_eq_true (by first | (with_reducible assumption) | assumption)
              obtain ⟨ad101, e101, hx101_0⟩ := Kd.at_int HR0.out x5_1 p101 q101
              cases e101
              replace p101 := eq_true p101
              replace q101 := eq_true q101
              have p102 : 0 ≤ (x5_1 : Int) := of_decide_eq_true (by first | (with_reducible assumption) | assumption)
              have q102 : x5_1 < (l1.length : Int) := of_decide_eq_true (by first | (with_reducible assumption) | assumption)
              obtain ⟨ad102, e102, hx102_0⟩ := Kd.at_int HR1.out x5_1 p102 q102
              cases e102
              replace p102 := eq_true p102
              replace q102 := eq_true q102
              go_wp2
              repeat (go_quiet (fail); try go_wp2)
              go_roundg k1
              case measure => have := HK1.out; omega
              case rel => exact ⟨(wrap64 (x5_1 + 1)), (by first | rfl | (simp; done) | (simp [*]; done)), H', ⟨by have := HK1.out; omega⟩, by repeat (first | exact Drawn0.refl _ | apply Drawn0.step)⟩
            · rw [if_neg c6] at H
              have c6b0 : ((rd l0 x5_1) == (rd l1 x5_1)) = false := beq_eq_false_iff_ne.mpr c6
              have c6b1 : ((rd l0 x5_1) != (rd l1 x5_1)) = true := bne_iff_ne.mpr c6
              obtain rfl := Option.some.inj H
              have p101 : 0 ≤ (x5_1 : Int) := of_decide_eq_true (by first | (with_reducible assumption) | assumption)
              have q101 : x5_1 < (l0.length : Int) := of_decide_eq_true (by first | (with_reducible assumption) | assumption)
              obtain ⟨ad101, e101, hx101_0⟩ := Kd.at_int HR0.out x5_1 p101 q101
              cases e101
              replace p101 := eq_true p101
              replace q101 := eq_true q101
              have p102 : 0 ≤ (x5_1 : Int) := of_decide_eq_true (by first | (with_reducible assumption) | assumption)
              have q102 : x5_1 < (l1.length : Int) := of_decide_eq_true (by first | (with_reducible assumption) | assumption)
              obtain ⟨ad102, e102, hx102_0⟩ := Kd.at_int HR1.out x5_1 p102 q102
              cases e102
              replace p102 := eq_true p102
              replace q102 := eq_true q102
              go_wp2
              repeat (go_quiet (fail); try go_wp2)
              go_ret
              exact ⟨by first | rfl | (simp; done) | (simp [*]; done), by repeat (first | exact Drawn0.refl _ | apply Drawn0.step)⟩
          · rw [if_neg c5] at H
            exact absurd H (by simp)
        · rw [if_neg c4] at H
          have c4b0 : decide (x5_1 < (l1.length : Int)) = false := decide_eq_false c4
          clear c4
          obtain rfl := Option.some.inj H
          go_wp2
          repeat (go_quiet (fail); try go_wp2)
          go_ret
          exact ⟨by first | rfl | (simp; done) | (simp [*]; done), by repeat (first | exact Drawn0.refl _ | apply Drawn0.step)⟩
      · rw [if_neg c3] at H
        have c3b0 : decide (x5_1 < (l0.length : Int)) = false := decide_eq_false c3
        clear c3
        obtain rfl := Option.some.inj H
        go_wp2
        repeat (go_quiet (fail); try go_wp2)
        go_ret
        exact ⟨by first | rfl | (simp; done) | (simp [*]; done), by repeat (first | exact Drawn0.refl _ | apply Drawn0.step)⟩

/-! ### cairnref01_Compare: function 19 -/
def cairnref01_Compare.j0 : Nat → List Int → List Int → Int → Bool → Option (Int)
  | 0, _, _, _, _ => none
  | k + 1, x0, x1, x5, x9 => if x9 = true then (some 0) else (if x5 = (x0.length : Int) then (some (-1)) else (if x5 = (x1.length : Int) then (some 1) else (if 0 ≤ x5 then (if x5 < (x0.length : Int) then (if x5 < (x1.length : Int) then (if (rd x0 x5) < (rd x1 x5) then (some (-1)) else (some 1)) else (none)) else (none)) else (none))))
def cairnref01_Compare.f (k : Nat) (l0 : List Int) (l1 : List Int) : Option (Int) := (cairnref01_Common.f k l0 l1).bind fun t103 => (if t103 = (l0.length : Int) then (cairnref01_Compare.j0 k l0 l1 t103 (t103 == (l1.length : Int))) else (cairnref01_Compare.j0 k l0 l1 t103 false))
theorem cairnref01_Compare.mono_l : ∀ k, (∀ y0 y1 y2 y3, LeO (cairnref01_Compare.j0 k y0 y1 y2 y3) (cairnref01_Compare.j0 (k + 1) y0 y1 y2 y3))
  | 0 => fun _ _ _ _ r h => by simp [cairnref01_Compare.j0] at h
  | k + 1 => by
    have ih0 := cairnref01_Compare.mono_l k
    · intro y0 y1 y2 y3
      unfold cairnref01_Compare.j0
      repeat' first
      | (with_reducible exact ih0 _ _ _ _)
      | (with_reducible exact cairnref01_Common.mono _ _ _)
      | (with_reducible exact LeO.refl _)
      | (with_reducible exact LeO.none _)
      | (with_reducible refine LeO.ite ?_ ?_)
      | (with_reducible refine LeO.bind ?_ (fun _ => ?_))
      | exact ih0 _ _ _ _
      | exact cairnref01_Common.mono _ _ _
      | exact LeO.none _
      | refine LeO.ite ?_ ?_
      | refine LeO.bind ?_ (fun _ => ?_)
theorem cairnref01_Compare.mono : ∀ a0 a1 k, LeO (cairnref01_Compare.f k a0 a1) (cairnref01_Compare.f (k + 1) a0 a1) := by
  intro a0 a1 k
  have ih0 := cairnref01_Compare.mono_l k
  unfold cairnref01_Compare.f
  repeat' first
      | (with_reducible exact ih0 _ _ _ _)
      | (with_reducible exact cairnref01_Common.mono _ _ _)
      | (with_reducible exact LeO.refl _)
      | (with_reducible exact LeO.none _)
      | (with_reducible refine LeO.ite ?_ ?_)
      | (with_reducible refine LeO.bind ?_ (fun _ => ?_))
      | exact ih0 _ _ _ _
      | exact cairnref01_Common.mono _ _ _
      | exact LeO.none _
      | refine LeO.ite ?_ ?_
      | refine LeO.bind ?_ (fun _ => ?_)
set_option maxHeartbeats 8000000 in
set_option maxRecDepth 100000 in
theorem cairnref01_Compare.calls (k : Nat) (A0 : Option Addr) (c0 : Nat) (l0 : List Int) (A1 : Option Addr) (c1 : Nat) (l1 : List Int) (r : Int) (w : World) (hr0 : Kd.C (Kd.int .u8) w A0 l0.length l0) (hc0 : l0.length ≤ c0) (hr1 : Kd.C (Kd.int .u8) w A1 l1.length l1) (hc1 : l1.length ≤ c1) (h : cairnref01_Compare.f k l0 l1 = some r) :
    Calls Tryd.prog 19 #[.slice A0 l0.length c0, .slice A1 l1.length c1] w fun e w' => e = .returned (.int .i64 r) ∧ Drawn0 w w' := by
  have HR0 := Aside0.mk hr0
  have HC0 := Aside0.mk hc0
  clear hr0 hc0
  have HR1 := Aside0.mk hr1
  have HC1 := Aside0.mk hc1
  clear hr1 hc1
  have H : ((cairnref01_Common.f k l0 l1).bind fun t103 => (if t103 = (l0.length : Int) then (cairnref01_Compare.j0 k l0 l1 t103 (t103 == (l1.length : Int))) else (cairnref01_Compare.j0 k l0 l1 t103 false))) = some r := h
  clear h
  replace H := Option.bind_eq_some_iff.mp H
  obtain ⟨t103, A30, H⟩ := H
  replace H : (if t103 = (l0.length : Int) then (cairnref01_Compare.j0 k l0 l1 t103 (t103 == (l1.length : Int))) else (cairnref01_Compare.j0 k l0 l1 t103 false)) = some r := H
  have A3 := Aside0.mk A30
  clear A30
  have HC4 := Aside0.mk H
  clear H
  go_enter Tryd.func19, Tryd.ntmps19
  go_upto_region 2 with (first | (go_at_call 18; (with_reducible refine (cairnref01_Common.calls k _ _ l0 _ _ l1 t103 _ ?side1 ?side2 ?side3 ?side4 A3.out).mono ?_); (case side1 => repeat (first | exact HR0.out | (with_reducible refine Kd.C_alloc ?_ _) | (with_reducible refine Kd.C_drewN ?_ _) | (with_reducible refine Kd.C_drew ?_))); (case side2 => exact HC0.out); (case side3 => repeat (first | exact HR1.out | (with_reducible refine Kd.C_alloc ?_ _) | (with_reducible refine Kd.C_drewN ?_ _) | (with_reducible refine Kd.C_drew ?_))); (case side4 => exact HC1.out); rintro e w' ⟨rfl, ⟨nd, rfl⟩⟩; (try first | exact ⟨rfl, _, World.drewN_drewN _ _ _⟩ | exact ⟨rfl, _, Eq.trans (World.drewN_drewN _ _ _) (congrArg (World.drewN _) (Nat.add_assoc _ _ _))⟩)))
  repeat (go_quiet (first | (go_at_call 18; (with_reducible refine (cairnref01_Common.calls k _ _ l0 _ _ l1 t103 _ ?side1 ?side2 ?side3 ?side4 A3.out).mono ?_); (case side1 => repeat (first | exact HR0.out | (with_reducible refine Kd.C_alloc ?_ _) | (with_reducible refine Kd.C_drewN ?_ _) | (with_reducible refine Kd.C_drew ?_))); (case side2 => exact HC0.out); (case side3 => repeat (first | exact HR1.out | (with_reducible refine Kd.C_alloc ?_ _) | (with_reducible refine Kd.C_drewN ?_ _) | (with_reducible refine Kd.C_drew ?_))); (case side4 => exact HC1.out); rintro e w' ⟨rfl, ⟨nd, rfl⟩⟩; (try first | exact ⟨rfl, _, World.drewN_drewN _ _ _⟩ | exact ⟨rfl, _, Eq.trans (World.drewN_drewN _ _ _) (congrArg (World.drewN _) (Nat.add_assoc _ _ _))⟩))); go_upto_region 2 with (first | (go_at_call 18; (with_reducible refine (cairnref01_Common.calls k _ _ l0 _ _ l1 t103 _ ?side1 ?side2 ?side3 ?side4 A3.out).mono ?_); (case side1 => repeat (first | exact HR0.out | (with_reducible refine Kd.C_alloc ?_ _) | (with_reducible refine Kd.C_drewN ?_ _) | (with_reducible refine Kd.C_drew ?_))); (case side2 => exact HC0.out); (case side3 => repeat (first | exact HR1.out | (with_reducible refine Kd.C_alloc ?_ _) | (with_reducible refine Kd.C_drewN ?_ _) | (with_reducible refine Kd.C_drew ?_))); (case side4 => exact HC1.out); rintro e w' ⟨rfl, ⟨nd, rfl⟩⟩; (try first | exact ⟨rfl, _, World.drewN_drewN _ _ _⟩ | exact ⟨rfl, _, Eq.trans (World.drewN_drewN _ _ _) (congrArg (World.drewN _) (Nat.add_assoc _ _ _))⟩))))
  (try simp only [Act.put, List.setIfInBounds_toArray, List.set_cons_zero, List.set_cons_succ])
  go_cut [9] (fun v9 wc => ∃ (kq : Nat) (x9_3 : Bool), v9 = .bool x9_3 ∧ Aside0 (cairnref01_Compare.j0 kq l0 l1 t103 x9_3 = some r) ∧ Aside0 (kq ≤ k) ∧ Drawn0 w wc)
  case first =>
    have H := HC4.out
    clear HC4
    by_cases c5 : t103 = (l0.length : Int)
    · rw [if_pos c5] at H
      have c5b0 : (t103 == (l0.length : Int)) = true := beq_iff_eq.mpr c5
      have c5b1 : (t103 != (l0.length : Int)) = false := bne_eq_false_iff_eq.mpr c5
      clear c5
      (first | rw [c5b0] | (simp only [i64_w, i32_w]; rw [c5b0]) | skip)
      have H' := Aside0.mk H
      clear H
      go_wp2
      repeat (go_quiet (fail); try go_wp2)
      go_meet
      case rel => exact ⟨_, ((t103 == (l1.length : Int))), (by first | rfl | (simp; done) | (simp [*]; done)), H', ⟨by first | omega | exact Nat.le_refl _⟩, by repeat (first | exact Drawn0.refl _ | apply Drawn0.step)⟩
    · rw [if_neg c5] at H
      have c5b0 : (t103 == (l0.length : Int)) = false := beq_eq_false_iff_ne.mpr c5
      have c5b1 : (t103 != (l0.length : Int)) = true := bne_iff_ne.mpr c5
      (first | rw [c5b0] | (simp only [i64_w, i32_w]; rw [c5b0]) | skip)
      have H' := Aside0.mk H
      clear H
      go_wp2
      repeat (go_quiet (fail); try go_wp2)
      go_meet
      case rel => exact ⟨_, (false), (by first | rfl | (simp; done) | (simp [*]; done)), H', ⟨by first | omega | exact Nat.le_refl _⟩, by repeat (first | exact Drawn0.refl _ | apply Drawn0.step)⟩
  case rest =>
    clear HC4
    try clear c1
    try clear p2
    try clear c5
    try clear c5b0
    try clear c5b1
    obtain ⟨kq, x9_3, rfl, HA, HJ3, ⟨mc3, rfl⟩⟩ := hcut
    cases kq with
    | zero => exact absurd HA.out (by simp [cairnref01_Compare.j0])
    | succ kj3 =>
      have H := HA.out
      clear HA
      simp only [cairnref01_Compare.j0] at H
      by_cases c6 : x9_3 = true
      · subst c6
        have H1 : (some 0) = some r := by rw [if_pos rfl] at H; exact H
        clear H
        have H := H1
        clear H1
        obtain rfl := Option.some.inj H
        go_wp2
        repeat (go_quiet (fail); try go_wp2)
        go_ret
        exact ⟨by first | rfl | (simp; done) | (simp [*]; done), by repeat (first | exact Drawn0.refl _ | apply Drawn0.step)⟩
      · replace c6 := Bool.eq_false_iff.mpr c6
        subst c6
        have H1 : (if t103 = (l0.length : Int) then (some (-1)) else (if t103 = (l1.length : Int) then (some 1) else (if 0 ≤ t103 then (if t103 < (l0.length : Int) then (if t103 < (l1.length : Int) then (if (rd l0 t103) < (rd l1 t103) then (some (-1)) else (some 1)) else (none)) else (none)) else (none)))) = some r := by rw [if_neg (show ¬ (false = true) by decide)] at H; exact H
        clear H
        have H := H1
        clear H1
        by_cases c7 : t103 = (l0.length : Int)
        · rw [if_pos c7] at H
          have c7b0 : (t103 == (l0.length : Int)) = true := beq_iff_eq.mpr c7
          have c7b1 : (t103 != (l0.length : Int)) = false := bne_eq_false_iff_eq.mpr c7
          clear c7
          obtain rfl := Option.some.inj H
          go_wp2
          repeat (go_quiet (fail); try go_wp2)
          go_ret
          exact ⟨by first | rfl | (simp; done) | (simp [*]; done), by repeat (first | exact Drawn0.refl _ | apply Drawn0.step)⟩
        · rw [if_neg c7] at H
          have c7b0 : (t103 == (l0.length : Int)) = false := beq_eq_false_iff_ne.mpr c7
          have c7b1 : (t103 != (l0.length : Int)) = true := bne_iff_ne.mpr c7
          by_cases c8 : t103 = (l1.length : Int)
          · rw [if_pos c8] at H
            have c8b0 : (t103 == (l1.length : Int)) = true := beq_iff_eq.mpr c8
            have c8b1 : (t103 != (l1.length : Int)) = false := bne_eq_false_iff_eq.mpr c8
            clear c8
            obtain rfl := Option.some.inj H
            go_wp2
            repeat (go_quiet (fail); try go_wp2)
            go_ret
            exact ⟨by first | rfl | (simp; done) | (simp [*]; done), by repeat (first | exact Drawn0.refl _ | apply Drawn0.step)⟩
          · rw [if_neg c8] at H
            have c8b0 : (t103 == (l1.length : Int)) = false := beq_eq_false_iff_ne.mpr c8
            have c8b1 : (t103 != (l1.length : Int)) = true := bne_iff_ne.mpr c8
            by_cases c9 : 0 ≤ t103
            · rw [if_pos c9] at H
              have c9b0 : decide (0 ≤ t103) = true := decide_eq_true c9
              clear c9
              by_cases c10 : t103 < (l0.length : Int)
              · rw [if_pos c10] at H
                have c10b0 : decide (t103 < (l0.length : Int)) = true := decide_eq_true c10
                clear c10
                by_cases c11 : t103 < (l1.length : Int)
                · rw [if_pos c11] at H
                  have c11b0 : decide (t103 < (l1.length : Int)) = true := decide_eq_true c11
                  clear c11
                  by_cases c12 : (rd l0 t103) < (rd l1 t103)
                  · rw [if_pos c12] at H
                    have c12b0 : decide ((rd l0 t103) < (rd l1 t103)) = true := decide_eq_true c12
                    clear c12
                    obtain rfl := Option.some.inj H
                    have p104 : 0 ≤ (t103 : Int) := of_decide_eq_true (by first | (with_reducible assumption) | assumption)
                    have q104 : t103 < (l0.length : Int) := of_decide_eq_true (by first | (with_reducible assumption) | assumption)
                    obtain ⟨ad104, e104, hx104_0⟩ := Kd.at_int HR0.out t103 p104 q104
                    cases e104
                    replace p104 := eq_true p104
                    replace q104 := eq_true q104
                    have p105 : 0 ≤ (t103 : Int) := of_decide_eq_true (by first | (with_reducible assumption) | assumption)
                    have q105 : t103 < (l1.length : Int) := of_decide_eq_true (by first | (with_reducible assumption) | assumption)
                    obtain ⟨ad105, e105, hx105_0⟩ := Kd.at_int HR1.out t103 p105 q105
                    cases e105
                    replace p105 := eq_true p105
                    replace q105 := eq_true q105
                    go_wp2
                    repeat (go_quiet (fail); try go_wp2)
                    go_ret
                    exact ⟨by first | rfl | (simp; done) | (simp [*]; done), by repeat (first | exact Drawn0.refl _ | apply Drawn0.step)⟩
                  · rw [if_neg c12] at H
                    have c12b0 : decide ((rd l0 t103) < (rd l1 t103)) = false := decide_eq_false c12
                    clear c12
                    obtain rfl := Option.some.inj H
                    have p104 : 0 ≤ (t103 : Int) := of_decide_eq_true (by first | (with_reducible assumption) | assumption)
                    have q104 : t103 < (l0.length : Int) := of_decide_eq_true (by first | (with_reducible assumption) | assumption)
                    obtain ⟨ad104, e104, hx104_0⟩ := Kd.at_int HR0.out t103 p104 q104
                    cases e104
                    replace p104 := eq_true p104
                    replace q104 := eq_true q104
                    have p105 : 0 ≤ (t103 : Int) := of_decide_eq_true (by first | (with_reducible assumption) | assumption)
                    have q105 : t103 < (l1.length : Int) := of_decide_eq_true (by first | (with_reducible assumption) | assumption)
                    obtain ⟨ad105, e105, hx105_0⟩ := Kd.at_int HR1.out t103 p105 q105
                    cases e105
                    replace p105 := eq_true p105
                    replace q105 := eq_true q105
                    go_wp2
                    repeat (go_quiet (fail); try go_wp2)
                    go_ret
                    exact ⟨by first | rfl | (simp; done) | (simp [*]; done), by repeat (first | exact Drawn0.refl _ | apply Drawn0.step)⟩
                · rw [if_neg c11] at H
                  exact absurd H (by simp)
              · rw [if_neg c10] at H
                exact absurd H (by simp)
            · rw [if_neg c9] at H
              exact absurd H (by simp)

/-! ### cairnref01_Same: function 15 -/
def cairnref01_Same.f (k : Nat) (l0 : List Int) (l1 : List Int) : Option (Bool) := (cairnref01_Compare.f k l0 l1).bind fun t106 => (some (t106 == 0))
theorem cairnref01_Same.mono : ∀ a0 a1 k, LeO (cairnref01_Same.f k a0 a1) (cairnref01_Same.f (k + 1) a0 a1) := by
  intro a0 a1 k
  unfold cairnref01_Same.f
  repeat' first
      | (with_reducible exact cairnref01_Compare.mono _ _ _)
      | (with_reducible exact LeO.refl _)
      | (with_reducible exact LeO.none _)
      | (with_reducible refine LeO.ite ?_ ?_)
      | (with_reducible refine LeO.bind ?_ (fun _ => ?_))
      | exact cairnref01_Compare.mono _ _ _
      | exact LeO.none _
      | refine LeO.ite ?_ ?_
      | refine LeO.bind ?_ (fun _ => ?_)
set_option maxHeartbeats 8000000 in
set_option maxRecDepth 100000 in
theorem cairnref01_Same.calls (k : Nat) (A0 : Option Addr) (c0 : Nat) (l0 : List Int) (A1 : Option Addr) (c1 : Nat) (l1 : List Int) (r : Bool) (w : World) (hr0 : Kd.C (Kd.int .u8) w A0 l0.length l0) (hc0 : l0.length ≤ c0) (hr1 : Kd.C (Kd.int .u8) w A1 l1.length l1) (hc1 : l1.length ≤ c1) (h : cairnref01_Same.f k l0 l1 = some r) :
    Calls Tryd.prog 15 #[.slice A0 l0.length c0, .slice A1 l1.length c1] w fun e w' => e = .returned (.bool r) ∧ Drawn0 w w' := by
  have HR0 := Aside0.mk hr0
  have HC0 := Aside0.mk hc0
  clear hr0 hc0
  have HR1 := Aside0.mk hr1
  have HC1 := Aside0.mk hc1
  clear hr1 hc1
  have H : ((cairnref01_Compare.f k l0 l1).bind fun t106 => (some (t106 == 0))) = some r := h
  clear h
  replace H := Option.bind_eq_some_iff.mp H
  obtain ⟨t106, A30, H⟩ := H
  replace H : (some (t106 == 0)) = some r := H
  have A3 := Aside0.mk A30
  clear A30
  obtain rfl := Option.some.inj H
  go_enter Tryd.func15, Tryd.ntmps15
  go_wp2_with (first | ((with_reducible refine gate_callee (f := 19) rfl ?_); refine goesL_ (some 7) rfl rfl Tryd.func19 (by kernel_rfl) rfl #[.slice A0 l0.length c0, .slice A1 l1.length c1] rfl (by (try simp only [List.map_toArray, List.map_cons, List.map_nil]); first | done | rfl | (simp only [List.length_drop, List.length_take]; rfl)) ?_; (with_reducible refine (cairnref01_Compare.calls k _ _ l0 _ _ l1 t106 _ ?side1 ?side2 ?side3 ?side4 A3.out).mono ?_); (case side1 => repeat (first | exact HR0.out | (with_reducible refine Kd.C_alloc ?_ _) | (with_reducible refine Kd.C_drewN ?_ _) | (with_reducible refine Kd.C_drew ?_))); (case side2 => exact HC0.out); (case side3 => repeat (first | exact HR1.out | (with_reducible refine Kd.C_alloc ?_ _) | (with_reducible refine Kd.C_drewN ?_ _) | (with_reducible refine Kd.C_drew ?_))); (case side4 => exact HC1.out); rintro e w' ⟨rfl, ⟨nd, rfl⟩⟩; refine ⟨_, rfl, ?_⟩))
  go_ret
  exact ⟨by first | rfl | (simp; done) | (simp [*]; done), by repeat (first | exact Drawn0.refl _ | apply Drawn0.step)⟩

-- function 9 (cairnlaw01_fixed): by hand

-- function 13 (cairnlaw01_Roomy): by hand

/-! ### cairnref01_Bytes: function 14 -/
mutual
def cairnref01_Bytes.l0 : Nat → List Int → List Int → Int → Option (List Int × Int)
  | 0, _, _, _ => none
  | k + 1, x0, x4, x5 => if x5 < (x0.length : Int) then (if 0 ≤ x5 then (if (rd x0 x5) > 15 then (cairnref01_Bytes.j1 k x0 x4 x5 true) else (cairnref01_Bytes.j1 k x0 x4 x5 (((x0.length : Int) % 2) == 1))) else (none)) else (some (x4, 0))
def cairnref01_Bytes.j1 : Nat → List Int → List Int → Int → Bool → Option (List Int × Int)
  | 0, _, _, _, _ => none
  | k + 1, x0, x4, x5, x22 => if x22 = true then (some (([] : List Int), 2)) else (if (Int.tmod x5 2) = 1 then (if 0 ≤ (wrap64 (x5 - 1)) then (if (wrap64 (x5 - 1)) < (x0.length : Int) then (if 0 ≤ x5 then (if x5 < (x0.length : Int) then (if x4.length < 140737488355328 then (cairnref01_Bytes.l0 k x0 (x4 ++ [(((16 * (rd x0 (wrap64 (x5 - 1)))) % 256) + (rd x0 x5)) % 256]) (wrap64 (x5 + 1))) else (none)) else (none)) else (none)) else (none)) else (none)) else (cairnref01_Bytes.l0 k x0 x4 (wrap64 (x5 + 1))))
end
def cairnref01_Bytes.f (k : Nat) (l0 : List Int) : Option (List Int × Int) := cairnref01_Bytes.l0 k l0 ([] : List Int) 0
theorem cairnref01_Bytes.mono_l : ∀ k, (∀ y0 y1 y2, LeO (cairnref01_Bytes.l0 k y0 y1 y2) (cairnref01_Bytes.l0 (k + 1) y0 y1 y2)) ∧ (∀ y0 y1 y2 y3, LeO (cairnref01_Bytes.j1 k y0 y1 y2 y3) (cairnref01_Bytes.j1 (k + 1) y0 y1 y2 y3))
  | 0 => ⟨fun _ _ _ r h => by simp [cairnref01_Bytes.l0] at h, fun _ _ _ _ r h => by simp [cairnref01_Bytes.j1] at h⟩
  | k + 1 => by
    obtain ⟨ih0, ih1⟩ := cairnref01_Bytes.mono_l k
    refine ⟨?_, ?_⟩
    · intro y0 y1 y2
      unfold cairnref01_Bytes.l0
      repeat' first
      | (with_reducible exact ih0 _ _ _)
      | (with_reducible exact ih1 _ _ _ _)
      | (with_reducible exact LeO.refl _)
      | (with_reducible exact LeO.none _)
      | (with_reducible refine LeO.ite ?_ ?_)
      | (with_reducible refine LeO.bind ?_ (fun _ => ?_))
      | exact ih0 _ _ _
      | exact ih1 _ _ _ _
      | exact LeO.none _
      | refine LeO.ite ?_ ?_
      | refine LeO.bind ?_ (fun _ => ?_)
    · intro y0 y1 y2 y3
      unfold cairnref01_Bytes.j1
      repeat' first
      | (with_reducible exact ih0 _ _ _)
      | (with_reducible exact ih1 _ _ _ _)
      | (with_reducible exact LeO.refl _)
      | (with_reducible exact LeO.none _)
      | (with_reducible refine LeO.ite ?_ ?_)
      | (with_reducible refine LeO.bind ?_ (fun _ => ?_))
      | exact ih0 _ _ _
      | exact ih1 _ _ _ _
      | exact LeO.none _
      | refine LeO.ite ?_ ?_
      | refine LeO.bind ?_ (fun _ => ?_)
theorem cairnref01_Bytes.mono : ∀ a0 k, LeO (cairnref01_Bytes.f k a0) (cairnref01_Bytes.f (k + 1) a0) := by
  intro a0 k
  obtain ⟨ih0, ih1⟩ := cairnref01_Bytes.mono_l k
  unfold cairnref01_Bytes.f
  repeat' first
      | (with_reducible exact ih0 _ _ _)
      | (with_reducible exact ih1 _ _ _ _)
      | (with_reducible exact LeO.refl _)
      | (with_reducible exact LeO.none _)
      | (with_reducible refine LeO.ite ?_ ?_)
      | (with_reducible refine LeO.bind ?_ (fun _ => ?_))
      | exact ih0 _ _ _
      | exact ih1 _ _ _ _
      | exact LeO.none _
      | refine LeO.ite ?_ ?_
      | refine LeO.bind ?_ (fun _ => ?_)
def cairnref01_Bytes.T8 : Bool × List (List Nat × List Nat) := (true, [([], []), ([], []), ([], []), ([2], [2]), ([1, 3], [1, 3]), ([4], [4]), ([5], [5]), ([], []), ([], []), ([7, 8], [7, 8]), ([9], [9]), ([6, 10], [6, 10]), ([11], [11]), ([0, 12], [0, 12]), ([13, 13, 0, 1, 2, 3, 4, 5, 6, 7, 8, 9, 10, 11, 12, 13], [0, 13])])
def cairnref01_Bytes.B8 : List Nat := [0, 0, 0, 4, 14, 30, 62, 0, 0, 384, 896, 2046, 4094, 8191, 16383]
theorem cairnref01_Bytes.tab8 : rtab .any (opsOf Tryd.f14 8) = cairnref01_Bytes.T8 := by kernel_rfl
theorem cairnref01_Bytes.bits8 : waitsOk cairnref01_Bytes.T8.2 cairnref01_Bytes.B8 = true := by kernel_rfl
set_option maxHeartbeats 8000000 in
set_option maxRecDepth 100000 in
theorem cairnref01_Bytes.calls (k : Nat) (A0 : Option Addr) (c0 : Nat) (l0 : List Int) (r1 : List Int) (r2 : Int) (w : World) (hr0 : Kd.C (Kd.int .u8) w A0 l0.length l0) (hc0 : l0.length ≤ c0) (h : cairnref01_Bytes.f k l0 = some (r1, r2)) :
    Calls Tryd.prog 14 #[.slice A0 l0.length c0] w fun e w' => ∃ v0_ : Value, e = .returned (.tuple #[v0_, .int .i64 r2]) ∧ Kd.R (Kd.int .u8) 5 w' w.heap.size (fun _ => True) v0_ r1 ∧ Below w.heap.size w w' := by
  have HR0 := Aside0.mk hr0
  have HC0 := Aside0.mk hc0
  clear hr0 hc0
  have HB := Aside0.mk (Below.refl w.heap.size w)
  have H : (cairnref01_Bytes.l0 k l0 ([] : List Int) 0) = some (r1, r2) := h
  clear h
  have H' := Aside0.mk H
  clear H
  go_enter Tryd.func14, Tryd.ntmps14
  go_wp2
  go_loopg [4, 5] k (fun kq v4 v5 w' => ∃ (x4_1 : List Int) (x5_1 : Int), v5 = .int .i64 x5_1 ∧ Aside0 (cairnref01_Bytes.l0 kq l0 x4_1 x5_1 = some (r1, r2)) ∧ Aside0 (kq ≤ k) ∧ Aside0 (Kd.R (Kd.int .u8) 5 w' w.heap.size (fun _ => True) v4 x4_1) ∧ Aside0 (Below w.heap.size w w'))
  case atStart => exact ⟨(([] : List Int)), (0), (by first | rfl | (simp; done) | (simp [*]; done)), H', ⟨Nat.le_refl _⟩, ⟨by first | exact Kd.R_nil _ _ _ _ _ | exact Kd.N_nil _ _ _ _ _ | exact Kd.V_nil _ _ _ _ _ | exact Kd.Q_nil _ _ _ _ _ | exact Kd.S_nil _ _ _ _ _⟩, ⟨by repeat (first | (with_reducible first | exact HB.out | apply below_alloc | apply pw_below_drewN | apply below_drew1) | exact HB.out)⟩⟩
  case round =>
    clear H'
    try clear c1
    obtain ⟨x4_1, x5_1, rfl, HA, HK1, HO_4, HB⟩ := hrel
    cases gk with
    | zero => exact absurd HA.out (by simp [cairnref01_Bytes.l0])
    | succ k1 =>
      have H := HA.out
      clear HA
      simp only [cairnref01_Bytes.l0] at H
      by_cases c2 : x5_1 < (l0.length : Int)
      · rw [if_pos c2] at H
        have c2b0 : decide (x5_1 < (l0.length : Int)) = true := decide_eq_true c2
        clear c2
        have HC3 := Aside0.mk H
        clear H
        go_upto_region 5 with (fail)
        go_cut [22] (fun v22 wc => ∃ (kq : Nat) (x22_2 : Bool), v22 = .bool x22_2 ∧ Aside0 (cairnref01_Bytes.j1 kq l0 x4_1 x5_1 x22_2 = some (r1, r2)) ∧ Aside0 (kq ≤ k1) ∧ Aside0 (Kd.R (Kd.int .u8) 5 wc w.heap.size (fun _ => True) u4 x4_1) ∧ Aside0 (Below w.heap.size w wc))
        case first =>
          have H := HC3.out
          clear HC3
          by_cases c4 : 0 ≤ x5_1
          · rw [if_pos c4] at H
            have c4b0 : decide (0 ≤ x5_1) = true := decide_eq_true c4
            clear c4
            (first | rw [c4b0] | (simp only [i64_w, i32_w]; rw [c4b0]) | skip)
            by_cases c5 : (rd l0 x5_1) > 15
            · rw [if_pos c5] at H
              have c5b0 : decide (15 < (rd l0 x5_1)) = true := decide_eq_true c5
              clear c5
              have H' := Aside0.mk H
              clear H
              have p107 : 0 ≤ (x5_1 : Int) := of_decide_eq_true (by first | (with_reducible assumption) | assumption)
              have q107 : x5_1 < (l0.length : Int) := of_decide_eq_true (by first | (with_reducible assumption) | assumption)
              obtain ⟨ad107, e107, hx107_0⟩ := Kd.at_int HR0.out x5_1 p107 q107
              cases e107
              replace hx107_0 := (HB.out.cell (World.block_lt_of_cell? w _ hx107_0)).trans hx107_0
              replace p107 := eq_true p107
              replace q107 := eq_true q107
              go_wp2
              go_meet
              case rel => exact ⟨_, (true), (by first | rfl | (simp; done) | (simp [*]; done)), H', ⟨by have := HK1.out; first | omega | exact Nat.le_refl _⟩, ⟨by (with_reducible repeat (first | apply Kd.R_alloc | apply Kd.R_drewN | apply Kd.R_drew)); exact HO_4.out⟩, ⟨by repeat (first | (with_reducible first | exact HB.out | apply below_alloc | apply pw_below_drewN | apply below_drew1) | exact HB.out)⟩⟩
            · rw [if_neg c5] at H
              have c5b0 : decide (15 < (rd l0 x5_1)) = false := decide_eq_false c5
              clear c5
              have H' := Aside0.mk H
              clear H
              have p107 : 0 ≤ (x5_1 : Int) := of_decide_eq_true (by first | (with_reducible assumption) | assumption)
              have q107 : x5_1 < (l0.length : Int) := of_decide_eq_true (by first | (with_reducible assumption) | assumption)
              obtain ⟨ad107, e107, hx107_0⟩ := Kd.at_int HR0.out x5_1 p107 q107
              cases e107
              replace hx107_0 := (HB.out.cell (World.block_lt_of_cell? w _ hx107_0)).trans hx107_0
              replace p107 := eq_true p107
              replace q107 := eq_true q107
              go_wp2
              go_meet
              case rel => exact ⟨_, ((((l0.length : Int) % 2) == 1)), (by first | rfl | (simp; done) | (simp [*]; done)), H', ⟨by have := HK1.out; first | omega | exact Nat.le_refl _⟩, ⟨by (with_reducible repeat (first | apply Kd.R_alloc | apply Kd.R_drewN | apply Kd.R_drew)); exact HO_4.out⟩, ⟨by repeat (first | (with_reducible first | exact HB.out | apply below_alloc | apply pw_below_drewN | apply below_drew1) | exact HB.out)⟩⟩
          · rw [if_neg c4] at H
            exact absurd H (by simp)
        case rest =>
          clear HC3
          try clear c1
          try clear p1
          try clear q1
          try clear hx1
          try clear c2
          try clear c2b0
          try clear p2
          try clear c4
          try clear c4b0
          try clear c5
          try clear c5b0
          try clear hx107_0
          try clear p107
          try clear q107
          obtain ⟨kq, x22_2, rfl, HA, HJ2, HO_4, HB⟩ := hcut
          cases kq with
          | zero => exact absurd HA.out (by simp [cairnref01_Bytes.j1])
          | succ kj2 =>
            have H := HA.out
            clear HA
            simp only [cairnref01_Bytes.j1] at H
            by_cases c6 : x22_2 = true
            · subst c6
              have H1 : (some (([] : List Int), 2)) = some (r1, r2) := by rw [if_pos rfl] at H; exact H
              clear H
              have H := H1
              clear H1
              simp only [Option.some.injEq, Prod.mk.injEq] at H
              obtain ⟨rfl, rfl⟩ := H
              go_wp2
              go_ret2
              exact ⟨_, by first | rfl | (simp [errW_none, errW_some] <;> rfl) | (simp [*, errW_none, errW_some] <;> rfl), by first | exact Kd.R_nil _ _ _ _ _ | exact Kd.N_nil _ _ _ _ _ | exact Kd.V_nil _ _ _ _ _ | exact Kd.Q_nil _ _ _ _ _ | exact Kd.S_nil _ _ _ _ _, by repeat (first | (with_reducible first | exact HB.out | apply below_alloc | apply pw_below_drewN | apply below_drew1) | exact HB.out)⟩
            · replace c6 := Bool.eq_false_iff.mpr c6
              subst c6
              have H1 : (if (Int.tmod x5_1 2) = 1 then (if 0 ≤ (wrap64 (x5_1 - 1)) then (if (wrap64 (x5_1 - 1)) < (l0.length : Int) then (if 0 ≤ x5_1 then (if x5_1 < (l0.length : Int) then (if x4_1.length < 140737488355328 then (cairnref01_Bytes.l0 kj2 l0 (x4_1 ++ [(((16 * (rd l0 (wrap64 (x5_1 - 1)))) % 256) + (rd l0 x5_1)) % 256]) (wrap64 (x5_1 + 1))) else (none)) else (none)) else (none)) else (none)) else (none)) else (cairnref01_Bytes.l0 kj2 l0 x4_1 (wrap64 (x5_1 + 1)))) = some (r1, r2) := by rw [if_neg (show ¬ (false = true) by decide)] at H; exact H
              clear H
              have H := H1
              clear H1
              by_cases c7 : (Int.tmod x5_1 2) = 1
              · rw [if_pos c7] at H
                have c7b0 : ((Int.tmod x5_1 2) == 1) = true := beq_iff_eq.mpr c7
                have c7b1 : ((Int.tmod x5_1 2) != 1) = false := bne_eq_false_iff_eq.mpr c7
                clear c7
                obtain ⟨ji8, hji8⟩ : ∃ j_ : Int, (wrap64 (x5_1 - 1)) = j_ := ⟨_, rfl⟩
                replace H : (if 0 ≤ (ji8) then (if (ji8) < (l0.length : Int) then (if 0 ≤ x5_1 then (if x5_1 < (l0.length : Int) then (if x4_1.length < 140737488355328 then (cairnref01_Bytes.l0 kj2 l0 (x4_1 ++ [(((16 * (rd l0 (ji8))) % 256) + (rd l0 x5_1)) % 256]) (wrap64 (x5_1 + 1))) else (none)) else (none)) else (none)) else (none)) else (none)) = some (r1, r2) := by first | (rw [hji8] at H; exact H) | (simp only [hji8] at H ⊢; exact H)
                have hji8w : (IntKind.i64.wrap (x5_1 - 1)) = ji8 := (i64_w _).trans hji8
                by_cases c9 : 0 ≤ (ji8)
                · rw [if_pos c9] at H
                  have c9b0 : decide (0 ≤ (ji8)) = true := decide_eq_true c9
                  clear c9
                  by_cases c10 : (ji8) < (l0.length : Int)
                  · rw [if_pos c10] at H
                    have c10b0 : decide ((ji8) < (l0.length : Int)) = true := decide_eq_true c10
                    clear c10
                    by_cases c11 : 0 ≤ x5_1
                    · rw [if_pos c11] at H
                      have c11b0 : decide (0 ≤ x5_1) = true := decide_eq_true c11
                      clear c11
                      by_cases c12 : x5_1 < (l0.length : Int)
                      · rw [if_pos c12] at H
                        have c12b0 : decide (x5_1 < (l0.length : Int)) = true := decide_eq_true c12
                        clear c12
                        by_cases c13 : x4_1.length < 140737488355328
                        · rw [if_pos c13] at H
                          have LMc13 := Aside0.mk c13
                          clear c13
                          obtain ⟨y110, hy110⟩ : ∃ y_ : List Int, y_ = (x4_1 ++ [(((16 * (rd l0 (ji8))) % 256) + (rd l0 x5_1)) % 256]) := ⟨_, rfl⟩
                          replace H : (cairnref01_Bytes.l0 kj2 l0 y110 (wrap64 (x5_1 + 1))) = some (r1, r2) := by first | (rw [hy110]; with_reducible exact H) | (have H2_ := (Option.bind_some _ _).symm.trans H; rw [hy110]; with_reducible exact H2_) | (have H2_ := (Option.bind_some _ _).symm.trans H; with_reducible exact H2_) | with_reducible exact H | (rw [hy110]; exact H) | exact H
                          have Ny110 := Aside0.mk hy110
                          clear hy110
                          have H' := Aside0.mk H
                          clear H
                          try go_wp2
                          have n0_ := Aside0.mk (Kd.R_drew HO_4.out)
                          have n1_ := Aside0.mk (below_drew1 HB.out)
                          clear HO_4
                          clear HB
                          have HO_4 := n0_
                          have HB := n1_
                          clear n0_ n1_
                          have p108 : 0 ≤ ((ji8) : Int) := of_decide_eq_true (by first | (with_reducible assumption) | assumption)
                          have q108 : (ji8) < (l0.length : Int) := of_decide_eq_true (by first | (with_reducible assumption) | assumption)
                          obtain ⟨ad108, e108, hx108_0⟩ := Kd.at_int HR0.out (ji8) p108 q108
                          have hw108_0 := hx108_0
                          cases e108
                          replace hx108_0 := (HB.out.cell (World.block_lt_of_cell? w _ hx108_0)).trans hx108_0
                          replace p108 := eq_true p108
                          replace q108 := eq_true q108
                          have p109 : 0 ≤ (x5_1 : Int) := of_decide_eq_true (by first | (with_reducible assumption) | assumption)
                          have q109 : x5_1 < (l0.length : Int) := of_decide_eq_true (by first | (with_reducible assumption) | assumption)
                          obtain ⟨ad109, e109, hx109_0⟩ := Kd.at_int HR0.out x5_1 p109 q109
                          have hw109_0 := hx109_0
                          obtain rfl : ad108 = ad109 := (by injection e109)
                          replace hx109_0 := (HB.out.cell (World.block_lt_of_cell? w _ hx109_0)).trans hx109_0
                          replace p109 := eq_true p109
                          replace q109 := eq_true q109
                          refine start_ (n := 15) (S := fun w' => w'.cell? (ad108.add ((ji8)).toNat) = some (.int .u8 (rd l0 (ji8))) ∧ w'.cell? (ad108.add (x5_1).toNat) = some (.int .u8 (rd l0 x5_1))) (ds := []) #[false, false, false, false, false, false, false, false, false, false, false, false, false, false, false] (by kernel_rfl) rfl rfl ⟨((HB.out.cell (World.block_lt_of_cell? w _ hw108_0)).trans hw108_0), ((HB.out.cell (World.block_lt_of_cell? w _ hw109_0)).trans hw109_0)⟩ (fun hHeld => ?_); refine with_tabW cairnref01_Bytes.tab8 cairnref01_Bytes.bits8 (fun HT_ HW_ => ?_)
                          generalize wc.drew = w14 at HO_4 HB hx108_0 hx109_0 hHeld ⊢
                          refine pure_ (i := 0) (N := some 26) (v := ?_) (a' := ?_) #[true, false, false, false, false, false, false, false, false, false, false, false, false, false, false] rfl rfl (any_of HT_.out (by kernel_rfl)) (fun _ _ _ h => h) (Or.inl ⟨by rfl, ?_⟩) ?_ ?_
                          rotate_left
                          · intro w'
                            go_simp
                            with_reducible rfl
                          rotate_left
                          · simp only [Act.put, List.setIfInBounds_toArray, List.set_cons_zero, List.set_cons_succ, i64_w, i32_w]
                            rfl
                          refine pure_ (i := 1) (N := some 27) (v := ?_) (a' := ?_) #[true, true, false, false, false, false, false, false, false, false, false, false, false, false, false] rfl rfl (any_of HT_.out (by kernel_rfl)) (fun _ _ _ h => h) (Or.inl ⟨by rfl, ?_⟩) ?_ ?_
                          rotate_left
                          · intro w'
                            go_simp
                            with_reducible rfl
                          rotate_left
                          · simp only [Act.put, List.setIfInBounds_toArray, List.set_cons_zero, List.set_cons_succ, i64_w, i32_w]
                            rfl
                          refine pure_ (i := 2) (N := some 28) (v := ?_) (a' := ?_) #[true, true, true, false, false, false, false, false, false, false, false, false, false, false, false] rfl rfl (any_of HT_.out (by kernel_rfl)) (fun _ _ _ h => h) (Or.inl ⟨by rfl, ?_⟩) ?_ ?_
                          rotate_left
                          · intro w'
                            go_simp
                            with_reducible rfl
                          rotate_left
                          · simp only [Act.put, List.setIfInBounds_toArray, List.set_cons_zero, List.set_cons_succ, i64_w, i32_w]
                            rfl
                          refine pure_ (i := 3) (N := some 29) (v := ?_) (a' := ?_) #[true, true, true, true, false, false, false, false, false, false, false, false, false, false, false] rfl rfl (any_of HT_.out (by kernel_rfl)) (fun _ _ _ h => h) (Or.inl ⟨by rfl, ?_⟩) ?_ ?_
                          rotate_left
                          · intro w'
                            go_simp
                            with_reducible rfl
                          rotate_left
                          · simp only [Act.put, List.setIfInBounds_toArray, List.set_cons_zero, List.set_cons_succ, i64_w, i32_w]
                            rfl
                          refine pure_ (i := 4) (N := some 30) (v := ?_) (a' := ?_) #[true, true, true, true, true, false, false, false, false, false, false, false, false, false, false] rfl rfl (any_of HT_.out (by kernel_rfl)) (fun _ _ _ h => h) (Or.inl ⟨by rfl, ?_⟩) ?_ ?_
                          rotate_left
                          · intro w'
                            go_simp
                            with_reducible rfl
                          rotate_left
                          · simp only [Act.put, List.setIfInBounds_toArray, List.set_cons_zero, List.set_cons_succ, i64_w, i32_w]
                            rfl
                          refine pure_ (i := 7) (N := some 33) (v := ?_) (a' := ?_) #[true, true, true, true, true, false, false, true, false, false, false, false, false, false, false] rfl rfl (any_of HT_.out (by kernel_rfl)) (fun _ _ _ h => h) (Or.inl ⟨by rfl, ?_⟩) ?_ ?_
                          rotate_left
                          · intro w'
                            go_simp
                            with_reducible rfl
                          rotate_left
                          · simp only [Act.put, List.setIfInBounds_toArray, List.set_cons_zero, List.set_cons_succ, i64_w, i32_w]
                            rfl
                          refine pure_ (i := 8) (N := some 34) (v := ?_) (a' := ?_) #[true, true, true, true, true, false, false, true, true, false, false, false, false, false, false] rfl rfl (any_of HT_.out (by kernel_rfl)) (fun _ _ _ h => h) (Or.inl ⟨by rfl, ?_⟩) ?_ ?_
                          rotate_left
                          · intro w'
                            go_simp
                            with_reducible rfl
                          rotate_left
                          · simp only [Act.put, List.setIfInBounds_toArray, List.set_cons_zero, List.set_cons_succ, i64_w, i32_w]
                            rfl
                          refine pure_ (i := 9) (N := some 35) (v := ?_) (a' := ?_) #[true, true, true, true, true, false, false, true, true, true, false, false, false, false, false] rfl rfl (any_of HT_.out (by kernel_rfl)) (fun _ _ _ h => h) (Or.inl ⟨by rfl, ?_⟩) ?_ ?_
                          rotate_left
                          · intro w'
                            go_simp
                            with_reducible rfl
                          rotate_left
                          · simp only [Act.put, List.setIfInBounds_toArray, List.set_cons_zero, List.set_cons_succ, i64_w, i32_w]
                            rfl
                          refine take_ (i := 5) (N := some 31) (v := ?_) (a' := ?_) #[true, true, true, true, true, true, false, true, true, true, false, false, false, false, false] rfl rfl (take_ofW HT_.out HW_.out (by kernel_rfl)) (fun _ _ _ h => h) (Or.inl ⟨by rfl, ?_⟩) hHeld ?_ ?_
                          rotate_left
                          · rintro w' ⟨s0, s1⟩
                            go_simp
                            with_reducible rfl
                          rotate_left
                          · simp only [Act.put, List.setIfInBounds_toArray, List.set_cons_zero, List.set_cons_succ, i64_w, i32_w]
                            rfl
                          refine pure_ (i := 6) (N := some 32) (v := ?_) (a' := ?_) #[true, true, true, true, true, true, true, true, true, true, false, false, false, false, false] rfl rfl (any_of HT_.out (by kernel_rfl)) (fun _ _ _ h => h) (Or.inl ⟨by rfl, ?_⟩) ?_ ?_
                          rotate_left
                          · intro w'
                            go_simp
                            with_reducible rfl
                          rotate_left
                          · simp only [Act.put, List.setIfInBounds_toArray, List.set_cons_zero, List.set_cons_succ, i64_w, i32_w]
                            rfl
                          refine take_ (i := 10) (N := some 36) (v := ?_) (a' := ?_) #[true, true, true, true, true, true, true, true, true, true, true, false, false, false, false] rfl rfl (take_ofW HT_.out HW_.out (by kernel_rfl)) (fun _ _ _ h => h) (Or.inl ⟨by rfl, ?_⟩) hHeld ?_ ?_
                          rotate_left
                          · rintro w' ⟨s0, s1⟩
                            go_simp
                            with_reducible rfl
                          rotate_left
                          · simp only [Act.put, List.setIfInBounds_toArray, List.set_cons_zero, List.set_cons_succ, i64_w, i32_w]
                            rfl
                          refine pure_ (i := 11) (N := some 37) (v := ?_) (a' := ?_) #[true, true, true, true, true, true, true, true, true, true, true, true, false, false, false] rfl rfl (any_of HT_.out (by kernel_rfl)) (fun _ _ _ h => h) (Or.inl ⟨by rfl, ?_⟩) ?_ ?_
                          rotate_left
                          · intro w'
                            go_simp
                            with_reducible rfl
                          rotate_left
                          · simp only [Act.put, List.setIfInBounds_toArray, List.set_cons_zero, List.set_cons_succ, i64_w, i32_w]
                            rfl
                          refine one_ (i := 12) (N := some 38) #[true, true, true, true, true, true, true, true, true, true, true, true, true, false, false] rfl rfl (one_of HT_.out (by kernel_rfl)) (by decide) (fun K hK => ?_)
                          refine value_ (w1 := ?_) (v := ?_) (by rfl) rfl ?_ ?_
                          rotate_left 2
                          · go_simp
                            constructor
                            · rfl
                            · rfl
                          refine hK.out _ _ ⟨(World.cell?_alloc_lt _ _ _ (World.block_lt_of_cell? _ _ (((HB.out.cell (World.block_lt_of_cell? w _ hw108_0)).trans hw108_0)))).trans (((HB.out.cell (World.block_lt_of_cell? w _ hw108_0)).trans hw108_0)), (World.cell?_alloc_lt _ _ _ (World.block_lt_of_cell? _ _ (((HB.out.cell (World.block_lt_of_cell? w _ hw109_0)).trans hw109_0)))).trans (((HB.out.cell (World.block_lt_of_cell? w _ hw109_0)).trans hw109_0))⟩ (fun hHeld => ?_)
                          clear hK K
                          refine norm_ (a' := ?_) ?_ ?_
                          rotate_left
                          · show Act.put _ (some 38) _ = _
                            simp only [Act.put, List.setIfInBounds_toArray, List.set_cons_zero, List.set_cons_succ, i64_w, i32_w]
                            rfl
                          refine one_ (i := 13) (N := some 39) #[true, true, true, true, true, true, true, true, true, true, true, true, true, true, false] rfl rfl (one_of HT_.out (by kernel_rfl)) (by decide) (fun K hK => ?_)
                          refine Kd.R_append_step (Kd.int .u8) (w0 := w) w.heap.size (by rfl) (.tmp 26) (.tmp 38) 22 5 (.int .u8 0) 1 rfl Tryd.underlying22 info5 rfl (by decide) (by omega) u4 x4_1 ((((16 * (rd l0 (ji8))) % 256) + (rd l0 x5_1)) % 256) [.int .u8 ((((16 * (rd l0 (ji8))) % 256) + (rd l0 x5_1)) % 256)] (fun _ => True) (fun _ => False) rfl rfl ?aP (fun _ hk => hk.elim) ?aF ?aO ?aB ?aS ?aL ?_
                          (case aP => exact rfl)
                          (case aB => exact (by repeat (first | (with_reducible first | exact HB.out | apply below_alloc | apply pw_below_drewN | apply below_drew1) | exact HB.out)))
                          (case aF => exact (fun _ _ => trivial))
                          (case aO => exact (by (with_reducible repeat (first | apply Kd.R_alloc | apply Kd.R_drewN | apply Kd.R_drew)); exact HO_4.out))
                          (case aS => exact (below_size (by repeat (first | (with_reducible first | exact HB.out | apply below_alloc | apply pw_below_drewN | apply below_drew1) | exact HB.out))))
                          (case aL => have := LMc13.out; omega)
                          intro v111 w15 ho hb hg hat
                          rw [← Ny110.out] at ho
                          have n0_ := Aside0.mk (hb)
                          have n1_ := Aside0.mk (ho)
                          clear HB
                          clear HO_4
                          have HB := n0_
                          have HO112 := n1_
                          clear n0_ n1_
                          clear ho hb hg hat
                          refine hK.out _ _ ⟨((HB.out.cell (World.block_lt_of_cell? w _ hw108_0)).trans hw108_0), ((HB.out.cell (World.block_lt_of_cell? w _ hw109_0)).trans hw109_0)⟩ (fun hHeld => ?_)
                          clear hK K
                          refine norm_ (a' := ?_) ?_ ?_
                          rotate_left
                          · show Act.put _ (some 39) _ = _
                            simp only [Act.put, List.setIfInBounds_toArray, List.set_cons_zero, List.set_cons_succ, i64_w, i32_w]
                            rfl
                          refine pure_ (i := 14) (N := some 4) (v := ?_) (a' := ?_) #[true, true, true, true, true, true, true, true, true, true, true, true, true, true, true] rfl rfl (any_of HT_.out (by kernel_rfl)) (fun _ _ _ h => h) (Or.inl ⟨by rfl, ?_⟩) ?_ ?_
                          rotate_left
                          · intro w'
                            go_simp
                            with_reducible rfl
                          rotate_left
                          · simp only [Act.put, List.setIfInBounds_toArray, List.set_cons_zero, List.set_cons_succ, i64_w, i32_w]
                            rfl
                          refine done_ (done_of HT_.out (by kernel_rfl)) ?_
                          try go_wp2
                          go_roundg kj2
                          case measure => have := HK1.out; have := HJ2.out; omega
                          case rel => exact ⟨(y110), (wrap64 (x5_1 + 1)), (by first | rfl | (simp; done) | (simp [*]; done)), H', ⟨by have := HK1.out; have := HJ2.out; omega⟩, ⟨by (with_reducible repeat (first | apply Kd.R_alloc | apply Kd.R_drewN | apply Kd.R_drew)); exact HO112.out⟩, ⟨by repeat (first | (with_reducible first | exact HB.out | apply below_alloc | apply pw_below_drewN | apply below_drew1) | exact HB.out)⟩⟩
                        · rw [if_neg c13] at H
                          exact absurd H (by simp)
                      · rw [if_neg c12] at H
                        exact absurd H (by simp)
                    · rw [if_neg c11] at H
                      exact absurd H (by simp)
                  · rw [if_neg c10] at H
                    exact absurd H (by simp)
                · rw [if_neg c9] at H
                  exact absurd H (by simp)
              · rw [if_neg c7] at H
                have c7b0 : ((Int.tmod x5_1 2) == 1) = false := beq_eq_false_iff_ne.mpr c7
                have c7b1 : ((Int.tmod x5_1 2) != 1) = true := bne_iff_ne.mpr c7
                have H' := Aside0.mk H
                clear H
                go_wp2
                go_roundg kj2
                case measure => have := HK1.out; have := HJ2.out; omega
                case rel => exact ⟨(x4_1), (wrap64 (x5_1 + 1)), (by first | rfl | (simp; done) | (simp [*]; done)), H', ⟨by have := HK1.out; have := HJ2.out; omega⟩, ⟨by (with_reducible repeat (first | apply Kd.R_alloc | apply Kd.R_drewN | apply Kd.R_drew)); exact HO_4.out⟩, ⟨by repeat (first | (with_reducible first | exact HB.out | apply below_alloc | apply pw_below_drewN | apply below_drew1) | exact HB.out)⟩⟩
      · rw [if_neg c2] at H
        have c2b0 : decide (x5_1 < (l0.length : Int)) = false := decide_eq_false c2
        clear c2
        simp only [Option.some.injEq, Prod.mk.injEq] at H
        obtain ⟨rfl, rfl⟩ := H
        go_wp2
        go_ret2
        exact ⟨_, by first | rfl | (simp [errW_none, errW_some] <;> rfl) | (simp [*, errW_none, errW_some] <;> rfl), by (with_reducible repeat (first | apply Kd.R_alloc | apply Kd.R_drewN | apply Kd.R_drew)); exact HO_4.out, by repeat (first | (with_reducible first | exact HB.out | apply below_alloc | apply pw_below_drewN | apply below_drew1) | exact HB.out)⟩

end Go.Proofs.YthiedcebneejjaaDoor.R
