/- Parts of the proof: Plain lemmas of my own, over any program: regions that draw their order, walked once under a class of worlds; arrays of bytes; bit operations on UInt8. No program in sight. The plain sum: SHA-256 over lists of bytes, as chapter 2 has it, and its laws. No program in sight. Words of 32 bits: the model's arithmetic on them is UInt32's; the contracts of rotR and turned. (*sha.State).block (*sha.State).Write: the state behind it has taken the bytes. (*sha.State).Write: its contract. sha.New, (*sha.State).Len, (*sha.State).Copy; a state that is none. (*sha.State).Sum: words for its walk. -/
import Derived.Test.YtnkhhnfmijljbaaDoorRows
import Derived.WalkKit
import Derived.WalkSpells
import Derived.WalkLawsBesides
import Derived.Stop.BytesEq
import Derived.Deep.QuietTactic
import Derived.BigQuiet
import Derived.Deep.MidRow
import Derived.Lib.Hide
import Derived.ProofKit
import Derived.OpenShut
import Derived.StillTailTactics
import Derived.Test.YtnkhhnfmijljbaaDoorWMore
import Derived.Laws.CopyRow
import Derived.Lib.SlBuf
set_option linter.unusedVariables false
set_option linter.unusedSimpArgs false
namespace Go.Proofs.YtnkhhnfmijljbaaDoor
open Go.RowKit
open Extern.Stop (cell)

/-! ### bytes in blocks -/
theorem cellRow (xs : List UInt8) (h : Nat) (w : World) (t : TypeId) (fr : Nat × Nat) (hg : w.heap[h]? = some (.cells (xs.map cell).toArray t fr)) (k : Nat) (hk : k < xs.length) :
    w.cell? ⟨h, k, none⟩ = some (.int .u8 (xs.getD k 0).toNat) := by
  simp [World.cell?, hg, cell, hk, List.getD]
theorem oneCells (xs : List UInt8) : (xs.map cell).toArray.all (·.oneCell') = true :=
  all_oneCell_toArray (fun v hv => by obtain ⟨x, _, rfl⟩ := List.mem_map.1 hv; rfl)
theorem heap_alloc3_new (w : World) (A B C : Obj) : (((w.alloc A).alloc B).alloc C).heap[w.heap.size + 1 + 1]? = some C := by
  have h := heap_alloc_new ((w.alloc A).alloc B) C
  have e : ((w.alloc A).alloc B).heap.size = w.heap.size + 1 + 1 := by simp
  rwa [e] at h
theorem heap_alloc3_mid (w : World) (A B C : Obj) : (((w.alloc A).alloc B).alloc C).heap[w.heap.size + 1]? = some B := by
  rw [Below.heap_alloc _ _ _ (by simp)]; exact heap_alloc2_new w A B
theorem heap_alloc3_old (w : World) (A B C : Obj) : (((w.alloc A).alloc B).alloc C).heap[w.heap.size]? = some A := by
  rw [Below.heap_alloc _ _ _ (by simp; omega)]; exact heap_alloc2_old w A B
theorem setRow_heap_other (w : World) (g b : Nat) (cs : Array Value) (h : b ≠ g) : (w.setRow g cs).heap[b]? = w.heap[b]? := by
  simp only [World.setRow, Array.getElem?_modify]
  rw [if_neg (fun e => h e.symm)]
theorem Below.setRow {B : Nat} {a w : World} (h : Below B a w) {g : Nat} (hg : B ≤ g) (cs : Array Value) : Below B a (w.setRow g cs) :=
  h.trans ⟨rfl, rfl, rfl, by simp, fun k hk => setRow_heap_other _ _ _ _ (by omega)⟩
theorem rangeOfRow {w : World} {b : Nat} {cs : List Value} {t : TypeId} {fr : Nat × Nat} (hb : w.heap[b]? = some (.cells cs.toArray t fr)) : w.rangeAt b 0 cs := fun j v hv => by
  rw [cell_of_row w b (0 + j) _ t fr hb]; simpa using hv
theorem rangeAt_below {w w' : World} {b o : Nat} {cs : List Value} (h : w.rangeAt b o cs) (hb : Below w.heap.size w w') : w'.rangeAt b o cs := fun j v hv => by
  have h1 := h j v hv
  rw [hb.cell (p := ⟨b, o + j, none⟩) (block_lt_of_cell h1)]; exact h1
theorem heap_below {w w' : World} {b : Nat} {o : Obj} (h : w.heap[b]? = some o) (hb : Below w.heap.size w w') : w'.heap[b]? = some o := by
  rw [hb.block b (by by_cases hlt : b < w.heap.size; exact hlt; rw [Array.getElem?_eq_none (by omega)] at h; cases h)]; exact h

/-! ### UInt8 -/
theorem bits_u8_xor (x y : UInt8) : bits .xor .u8 (x.toNat : Int) (y.toNat : Int) = ((x ^^^ y).toNat : Int) := by
  have hx := x.toNat_lt
  have hy := y.toNat_lt
  show IntKind.u8.wrap (((BitVec.ofInt 8 (x.toNat : Int) ^^^ BitVec.ofInt 8 (y.toNat : Int)) : BitVec 8).toNat : Int) = _
  rw [BitVec.ofInt_natCast, BitVec.ofInt_natCast, BitVec.toNat_xor, BitVec.toNat_ofNat, BitVec.toNat_ofNat, IntKind.wrap_u8, UInt8.toNat_xor, Nat.mod_eq_of_lt hx, Nat.mod_eq_of_lt hy]
  have := Nat.xor_lt_two_pow (n := 8) hx hy
  omega
theorem bits_u8_or (x y : UInt8) : bits .or .u8 (x.toNat : Int) (y.toNat : Int) = ((x ||| y).toNat : Int) := by
  have hx := x.toNat_lt
  have hy := y.toNat_lt
  show IntKind.u8.wrap (((BitVec.ofInt 8 (x.toNat : Int) ||| BitVec.ofInt 8 (y.toNat : Int)) : BitVec 8).toNat : Int) = _
  rw [BitVec.ofInt_natCast, BitVec.ofInt_natCast, BitVec.toNat_or, BitVec.toNat_ofNat, BitVec.toNat_ofNat, IntKind.wrap_u8, UInt8.toNat_or, Nat.mod_eq_of_lt hx, Nat.mod_eq_of_lt hy]
  have := Nat.or_lt_two_pow (n := 8) hx hy
  omega
theorem bits_u8_and (x y : UInt8) : bits .and .u8 (x.toNat : Int) (y.toNat : Int) = ((x &&& y).toNat : Int) := by
  have hx := x.toNat_lt
  have hy := y.toNat_lt
  show IntKind.u8.wrap (((BitVec.ofInt 8 (x.toNat : Int) &&& BitVec.ofInt 8 (y.toNat : Int)) : BitVec 8).toNat : Int) = _
  rw [BitVec.ofInt_natCast, BitVec.ofInt_natCast, BitVec.toNat_and, BitVec.toNat_ofNat, BitVec.toNat_ofNat, IntKind.wrap_u8, UInt8.toNat_and, Nat.mod_eq_of_lt hx, Nat.mod_eq_of_lt hy]
  have := Nat.and_lt_two_pow (n := 8) x.toNat hy
  omega

/-! ### a region that draws its order: one walk in the text's order, under a class of worlds -/
section
variable {P : Program} {ops : Array Oper} {C : World → Prop} {Q : Act → Prop} {a : Act} {rest : List Oper} {dst : Option Tmp} {ty : TypeId} {pos : String} {after : Array Edge} {guard : Option (Nat × Bool)}
theorem wpQ_skip {op : Op} (hw : Region.wanted ⟨dst, op, ty, pos, after, guard⟩ (yielded ops a.tmps) = false) (h : wpQuiet P ops C Q rest (a.put dst undef)) :
    wpQuiet P ops C Q (⟨dst, op, ty, pos, after, guard⟩ :: rest) a := BigFrame.wpQuiet_skip hw h
theorem wpQ_val {op : Op} (v : Value) (hw : Region.wanted ⟨dst, op, ty, pos, after, guard⟩ (yielded ops a.tmps) = true)
    (hv : ∀ w, C w → (execOp a.eval ⟨dst, op, ty, pos, after, guard⟩).run P w = .ok (.value v) w) (h : wpQuiet P ops C Q rest (a.put dst v)) :
    wpQuiet P ops C Q (⟨dst, op, ty, pos, after, guard⟩ :: rest) a :=
  BigFrame.wpQuiet_want hw fun K hK => ⟨v, fun w hC => by unfold Oper.quietAt; rw [hv w hC]; exact ⟨rfl, rfl⟩, hK _ h⟩
theorem wpQ_move {x : Operand} (hw : Region.wanted ⟨dst, .move x, ty, pos, after, guard⟩ (yielded ops a.tmps) = true) (h : wpQuiet P ops C Q rest (a.put dst (a.eval x))) :
    wpQuiet P ops C Q (⟨dst, .move x, ty, pos, after, guard⟩ :: rest) a := wpQ_val _ hw (fun w _ => by simp [execOp]) h
theorem wpQ_assign {x : Operand} (hw : Region.wanted ⟨dst, .assign x, ty, pos, after, guard⟩ (yielded ops a.tmps) = true) (h : wpQuiet P ops C Q rest (a.put dst (a.eval x))) :
    wpQuiet P ops C Q (⟨dst, .assign x, ty, pos, after, guard⟩ :: rest) a := wpQ_val _ hw (fun w _ => by simp [execOp]) h
theorem wpQ_pick {c x y : Operand} (b : Bool) (hc : a.eval c = .bool b) (hw : Region.wanted ⟨dst, .pick c x y, ty, pos, after, guard⟩ (yielded ops a.tmps) = true)
    (h : wpQuiet P ops C Q rest (a.put dst (if b then a.eval x else a.eval y))) : wpQuiet P ops C Q (⟨dst, .pick c x y, ty, pos, after, guard⟩ :: rest) a :=
  wpQ_val _ hw (fun w _ => by cases b <;> simp [execOp, hc, asBool]) h
theorem wpQ_row {t : TypeId} {x : Operand} (hw : Region.wanted ⟨dst, .load t x, ty, pos, after, guard⟩ (yielded ops a.tmps) = true) (b o : Nat) (hx : a.eval x = .pointer (some ⟨b, o, none⟩)) (cs : List Value) (d : TypeDesc)
    (hc : ∀ w, C w → w.rangeAt b o cs) (hu : P.underlying t = some d) (hd : d.isRow = true) (hi : (P.info? t).map (·.size) = some cs.length)
    (h : wpQuiet P ops C Q rest (a.put dst (.agg cs.toArray))) : wpQuiet P ops C Q (⟨dst, .load t x, ty, pos, after, guard⟩ :: rest) a :=
  wpQ_val _ hw (fun w hC => by
    unfold execOp
    simp only [hx, Instr.loadAt, Instr.sureAddr, Sem.run_bind, Sem.run_pure, Result.andThen_ok, run_loadVar_mid w b o t cs d (hc w hC) hu hd hi]) h
theorem wpQ_call {f : FuncId} {args : Array Operand} {argTypes : Array TypeId} (hw : Region.wanted ⟨dst, .call ⟨.value (.func f), args, argTypes⟩, ty, pos, after, guard⟩ (yielded ops a.tmps) = true)
    (vs : Array Value) (hvs : args.map a.eval = vs) (fn : Func) (hf : P.funcs[f]? = some fn) (hn : (fn.name == "runtime.NumGoroutine") = false) (hb : fn.body.isNone = false) (v : Value)
    (hc : ∀ w, C w → Calls P f vs w (fun e w' => e = .returned v ∧ C w')) (h : wpQuiet P ops C Q rest (a.put dst v)) :
    wpQuiet P ops C Q (⟨dst, .call ⟨.value (.func f), args, argTypes⟩, ty, pos, after, guard⟩ :: rest) a :=
  BigFrame.wpQuiet_want hw fun K hK => ⟨v, fun w hC => by
    unfold Oper.quietAt
    have e : (execOp a.eval ⟨dst, .call ⟨.value (.func f), args, argTypes⟩, ty, pos, after, guard⟩).run P w = .ok (.enter f vs) w := by
      have hn' : ¬ fn.name = "runtime.NumGoroutine" := by simpa using hn
      have hb' : ¬ fn.body = none := fun e => by rw [e] at hb; cases hb
      simp [execOp, resolve, Deferred.ofValue, invoke, callFunc, hvs, hf, hn', hb', go_sem]
    rw [e]
    exact ⟨rfl, hc w hC⟩, hK _ h⟩
theorem wpQ_call1 {f : FuncId} {x : Operand} {argTypes : Array TypeId} (hw : Region.wanted ⟨dst, .call ⟨.value (.func f), #[x], argTypes⟩, ty, pos, after, guard⟩ (yielded ops a.tmps) = true)
    (u : Value) (hx : a.eval x = u) (fn : Func) (hf : P.funcs[f]? = some fn) (hn : (fn.name == "runtime.NumGoroutine") = false) (hb : fn.body.isNone = false) (v : Value)
    (hc : ∀ w, C w → Calls P f #[u] w (fun e w' => e = .returned v ∧ C w')) (h : wpQuiet P ops C Q rest (a.put dst v)) :
    wpQuiet P ops C Q (⟨dst, .call ⟨.value (.func f), #[x], argTypes⟩, ty, pos, after, guard⟩ :: rest) a :=
  wpQ_call hw #[u] (by simp [hx]) fn hf hn hb v hc h
theorem wpQ_call2 {f : FuncId} {x y : Operand} {argTypes : Array TypeId} (hw : Region.wanted ⟨dst, .call ⟨.value (.func f), #[x, y], argTypes⟩, ty, pos, after, guard⟩ (yielded ops a.tmps) = true)
    (u u' : Value) (hx : a.eval x = u) (hy : a.eval y = u') (fn : Func) (hf : P.funcs[f]? = some fn) (hn : (fn.name == "runtime.NumGoroutine") = false) (hb : fn.body.isNone = false) (v : Value)
    (hc : ∀ w, C w → Calls P f #[u, u'] w (fun e w' => e = .returned v ∧ C w')) (h : wpQuiet P ops C Q rest (a.put dst v)) :
    wpQuiet P ops C Q (⟨dst, .call ⟨.value (.func f), #[x, y], argTypes⟩, ty, pos, after, guard⟩ :: rest) a :=
  wpQ_call hw #[u, u'] (by simp [hx, hy]) fn hf hn hb v hc h
end
/-! ### an array of bytes by value, as an argument -/
theorem u8_of_wf {a : Int} (h : (Lit.int .u8 a).wf = true) : 0 ≤ a ∧ a < 256 := by
  simp [Lit.wf, IntKind.min, IntKind.max, IntKind.signed, IntKind.bits] at h
  omega
theorem open_bytes {H : Type} {enc : TypeId × Value → H} {P : Program} {w : World} {base : Nat} {spare : Nat → Bool} {held : Bool} {r : Reach} {b0 : Nat} {t e : TypeId} {n : Nat} {v : Value} {d : DataW H} {p : List MemPlace}
    (hs : P.underlying t = some (.array n e)) (he : P.underlying e = some (.int .u8)) (hE : P.cellsOf e = 1) (hC : P.cellsOf t = n)
    (hv : Value.okWide P w r b0 t v) (h : DataW.Trod enc P w base spare held t v d p) : ∃ xs : List UInt8, xs.length = n ∧ v = .agg (xs.map cell).toArray := by
  unfold Value.okWide at hv
  rw [hs] at hv
  obtain ⟨cs, rfl, hsz, _⟩ := hv
  obtain ⟨fuel, hf⟩ := h
  obtain ⟨ys, m, _, _, hl, hn, hi⟩ := DataW.trod_array hs hf
  rw [hE] at hi
  simp only [Value.cells] at hi
  have key : ∀ i, i < n → ∃ x : UInt8, cs.toList[i]? = some (cell x) := fun i h => by
    have h1 := hi i h
    have hlt : i < cs.toList.length := by simp; omega
    rw [Nat.mul_one, show (cs.toList.drop i).take 1 = [cs.toList[i]] by rw [List.drop_eq_getElem_cons hlt]; simp] at h1
    rw [List.getElem?_eq_getElem (show i < ys.length by omega)] at h1
    obtain ⟨a, e0, _, wa⟩ := DataW.trod_int he h1
    have hb := u8_of_wf wa
    refine ⟨UInt8.ofNat a.toNat, ?_⟩
    rw [List.getElem?_eq_getElem hlt]
    simp only [List.cons.injEq, and_true] at e0
    rw [e0]
    simp only [cell, Option.some.injEq, Value.int.injEq, true_and]
    rw [UInt8.toNat_ofNat', show a.toNat % 2 ^ 8 = a.toNat by omega]
    exact (Int.toNat_of_nonneg hb.1).symm
  have fin : ∀ (l : List Value), (∀ i, i < l.length → ∃ x : UInt8, l[i]? = some (cell x)) → ∃ xs : List UInt8, l = xs.map cell := by
    intro l
    induction l with
    | nil => intro _; exact ⟨[], rfl⟩
    | cons c l ih =>
      intro hh
      obtain ⟨x, hx⟩ := hh 0 (by simp)
      obtain ⟨xs, hxs⟩ := ih fun i hi => by
        obtain ⟨y, hy⟩ := hh (i + 1) (by simpa using hi)
        exact ⟨y, by simpa using hy⟩
      refine ⟨x :: xs, ?_⟩
      simp only [List.getElem?_cons_zero, Option.some.injEq] at hx
      rw [hx, hxs, List.map_cons]
  obtain ⟨xs, hxs⟩ := fin cs.toList fun i h => key i (by simp at h; omega)
  refine ⟨xs, ?_, ?_⟩
  · have := congrArg List.length hxs
    simp at this
    omega
  · rw [← hxs]
end Go.Proofs.YtnkhhnfmijljbaaDoor
namespace Go.Proofs.YtnkhhnfmijljbaaDoor.Spec

/-- turned to the right by n -/
def rr (x : UInt32) (n : Nat) : UInt32 := (x >>> UInt32.ofNat n) ||| (x <<< UInt32.ofNat (32 - n))
def s0 (x : UInt32) : UInt32 := rr x 7 ^^^ rr x 18 ^^^ (x >>> 3)
def s1 (x : UInt32) : UInt32 := rr x 17 ^^^ rr x 19 ^^^ (x >>> 10)
/-- four bytes, the greatest first -/
def be (a b c d : UInt8) : UInt32 := (a.toUInt32 <<< 24) ||| (b.toUInt32 <<< 16) ||| (c.toUInt32 <<< 8) ||| d.toUInt32
def nextW (b : List UInt8) (ws : List UInt32) (t : Nat) : UInt32 :=
  if t < 16 then be (b.getD (4 * t) 0) (b.getD (4 * t + 1) 0) (b.getD (4 * t + 2) 0) (b.getD (4 * t + 3) 0)
  else s1 (ws.getD (t - 2) 0) + (ws.getD (t - 7) 0 + ws.getD (t - 16) 0 + s0 (ws.getD (t - 15) 0))
/-- the first t words of a block -/
def sched (b : List UInt8) : Nat → List UInt32
  | 0 => []
  | t + 1 => sched b t ++ [nextW b (sched b t) t]
/-- eight words -/
structure V where
  a : UInt32
  b : UInt32
  c : UInt32
  d : UInt32
  e : UInt32
  f : UInt32
  g : UInt32
  h : UInt32
deriving DecidableEq
def V.list (v : V) : List UInt32 := [v.a, v.b, v.c, v.d, v.e, v.f, v.g, v.h]
def V.add (s v : V) : V := ⟨s.a + v.a, s.b + v.b, s.c + v.c, s.d + v.d, s.e + v.e, s.f + v.f, s.g + v.g, s.h + v.h⟩
def K : List UInt32 := [
  0x428a2f98, 0x71374491, 0xb5c0fbcf, 0xe9b5dba5, 0x3956c25b, 0x59f111f1, 0x923f82a4, 0xab1c5ed5,
  0xd807aa98, 0x12835b01, 0x243185be, 0x550c7dc3, 0x72be5d74, 0x80deb1fe, 0x9bdc06a7, 0xc19bf174,
  0xe49b69c1, 0xefbe4786, 0x0fc19dc6, 0x240ca1cc, 0x2de92c6f, 0x4a7484aa, 0x5cb0a9dc, 0x76f988da,
  0x983e5152, 0xa831c66d, 0xb00327c8, 0xbf597fc7, 0xc6e00bf3, 0xd5a79147, 0x06ca6351, 0x14292967,
  0x27b70a85, 0x2e1b2138, 0x4d2c6dfc, 0x53380d13, 0x650a7354, 0x766a0abb, 0x81c2c92e, 0x92722c85,
  0xa2bfe8a1, 0xa81a664b, 0xc24b8b70, 0xc76c51a3, 0xd192e819, 0xd6990624, 0xf40e3585, 0x106aa070,
  0x19a4c116, 0x1e376c08, 0x2748774c, 0x34b0bcb5, 0x391c0cb3, 0x4ed8aa4a, 0x5b9cca4f, 0x682e6ff3,
  0x748f82ee, 0x78a5636f, 0x84c87814, 0x8cc70208, 0x90befffa, 0xa4506ceb, 0xbef9a3f7, 0xc67178f2]
def first : V := ⟨0x6a09e667, 0xbb67ae85, 0x3c6ef372, 0xa54ff53a, 0x510e527f, 0x9b05688c, 0x1f83d9ab, 0x5be0cd19⟩
def tOne (v : V) (k w : UInt32) : UInt32 := v.h + (rr v.e 6 ^^^ rr v.e 11 ^^^ rr v.e 25) + ((v.e &&& v.f) ^^^ (~~~v.e &&& v.g)) + k + w
def tTwo (v : V) : UInt32 := (rr v.a 2 ^^^ rr v.a 13 ^^^ rr v.a 22) + ((v.a &&& v.b) ^^^ (v.a &&& v.c) ^^^ (v.b &&& v.c))
def step (v : V) (k w : UInt32) : V := ⟨tOne v k w + tTwo v, v.a, v.b, v.c, v.d + tOne v k w, v.e, v.f, v.g⟩
def rounds (ws : List UInt32) (v : V) : Nat → V
  | 0 => v
  | t + 1 => step (rounds ws v t) (K.getD t 0) (ws.getD t 0)
/-- the state behind a block -/
def mix (s : V) (b : List UInt8) : V := s.add (rounds (sched b 64) s 64)
/-- the state behind n blocks -/
def foldN (s : V) (bs : List UInt8) : Nat → V
  | 0 => s
  | n + 1 => mix (foldN s bs n) ((bs.drop (64 * n)).take 64)
def wordsOf (bs : List UInt8) : V := foldN first bs (bs.length / 64)
def restOf (bs : List UInt8) : List UInt8 := bs.drop (64 * (bs.length / 64))
def be64 (n : Nat) : List UInt8 := (List.range 8).map fun i => UInt8.ofNat (n >>> (56 - 8 * i))
def zerosFor (n : Nat) : Nat := (119 - n % 64) % 64
def padded (bs : List UInt8) : List UInt8 := bs ++ [0x80] ++ List.replicate (zerosFor bs.length) 0 ++ be64 (8 * bs.length)
def bytes32 (x : UInt32) : List UInt8 := [(x >>> 24).toUInt8, (x >>> 16).toUInt8, (x >>> 8).toUInt8, x.toUInt8]
def V.bytes (v : V) : List UInt8 := bytes32 v.a ++ bytes32 v.b ++ bytes32 v.c ++ bytes32 v.d ++ bytes32 v.e ++ bytes32 v.f ++ bytes32 v.g ++ bytes32 v.h
def digest (bs : List UInt8) : List UInt8 := (wordsOf (padded bs)).bytes

theorem sched_length (b : List UInt8) : ∀ t, (sched b t).length = t
  | 0 => rfl
  | t + 1 => by simp [sched, sched_length b t]
theorem foldN_append (s : V) (bs cs : List UInt8) : ∀ n, 64 * n ≤ bs.length → foldN s (bs ++ cs) n = foldN s bs n
  | 0, _ => rfl
  | n + 1, h => by
    have h1 : (List.drop (64 * n) (bs ++ cs)).take 64 = (List.drop (64 * n) bs).take 64 := by
      rw [List.drop_append_of_le_length (by omega), List.take_append_of_le_length (by simp; omega)]
    simp only [foldN, foldN_append s bs cs n (by omega), h1]
theorem padded_length (bs : List UInt8) : (padded bs).length % 64 = 0 := by
  simp [padded, be64, zerosFor]; omega
theorem digest_length (bs : List UInt8) : (digest bs).length = 32 := by simp [digest, V.bytes, bytes32]
theorem restOf_length (bs : List UInt8) : (restOf bs).length = bs.length % 64 := by simp [restOf]; omega
theorem rest_short (bs c : List UInt8) (h : bs.length % 64 + c.length < 64) : wordsOf (bs ++ c) = wordsOf bs ∧ restOf (bs ++ c) = restOf bs ++ c := by
  have hd : (bs ++ c).length / 64 = bs.length / 64 := by simp; omega
  constructor
  · rw [wordsOf, hd, foldN_append _ _ _ _ (by omega)]; rfl
  · rw [restOf, hd, List.drop_append_of_le_length (by omega)]; rfl
theorem rest_full (bs c : List UInt8) (h : bs.length % 64 + c.length = 64) : wordsOf (bs ++ c) = mix (wordsOf bs) (restOf bs ++ c) ∧ restOf (bs ++ c) = [] ∧ (bs ++ c).length % 64 = 0 := by
  have hd : (bs ++ c).length / 64 = bs.length / 64 + 1 := by simp; omega
  refine ⟨?_, ?_, by simp; omega⟩
  · rw [wordsOf, hd, foldN, foldN_append _ _ _ _ (by omega), List.drop_append_of_le_length (by omega), List.take_of_length_le (by simp; omega)]; rfl
  · rw [restOf, hd]; apply List.drop_of_length_le; simp; omega
end Go.Proofs.YtnkhhnfmijljbaaDoor.Spec
set_option linter.unusedVariables false
set_option linter.unusedSimpArgs false
namespace Go.Proofs.YtnkhhnfmijljbaaDoor
open Go.RowKit
/-- a word's number; a byte's -/
def n32 (x : UInt32) : Int := x.toNat
def n8 (x : UInt8) : Int := x.toNat
/-- a word -/
def u (x : UInt32) : Value := .int .u32 (n32 x)
theorem bits_u32_xor (x y : UInt32) : bits .xor .u32 (n32 x) (n32 y) = n32 (x ^^^ y) := by
  have hx := x.toNat_lt
  have hy := y.toNat_lt
  show IntKind.u32.wrap (((BitVec.ofInt 32 (x.toNat : Int) ^^^ BitVec.ofInt 32 (y.toNat : Int)) : BitVec 32).toNat : Int) = ((x ^^^ y).toNat : Int)
  rw [BitVec.ofInt_natCast, BitVec.ofInt_natCast, BitVec.toNat_xor, BitVec.toNat_ofNat, BitVec.toNat_ofNat, IntKind.wrap_u32, UInt32.toNat_xor, Nat.mod_eq_of_lt hx, Nat.mod_eq_of_lt hy]
  have := Nat.xor_lt_two_pow (n := 32) hx hy
  omega
theorem bits_u32_or (x y : UInt32) : bits .or .u32 (n32 x) (n32 y) = n32 (x ||| y) := by
  have hx := x.toNat_lt
  have hy := y.toNat_lt
  show IntKind.u32.wrap (((BitVec.ofInt 32 (x.toNat : Int) ||| BitVec.ofInt 32 (y.toNat : Int)) : BitVec 32).toNat : Int) = ((x ||| y).toNat : Int)
  rw [BitVec.ofInt_natCast, BitVec.ofInt_natCast, BitVec.toNat_or, BitVec.toNat_ofNat, BitVec.toNat_ofNat, IntKind.wrap_u32, UInt32.toNat_or, Nat.mod_eq_of_lt hx, Nat.mod_eq_of_lt hy]
  have := Nat.or_lt_two_pow (n := 32) hx hy
  omega
theorem bits_u32_and (x y : UInt32) : bits .and .u32 (n32 x) (n32 y) = n32 (x &&& y) := by
  have hx := x.toNat_lt
  have hy := y.toNat_lt
  show IntKind.u32.wrap (((BitVec.ofInt 32 (x.toNat : Int) &&& BitVec.ofInt 32 (y.toNat : Int)) : BitVec 32).toNat : Int) = ((x &&& y).toNat : Int)
  rw [BitVec.ofInt_natCast, BitVec.ofInt_natCast, BitVec.toNat_and, BitVec.toNat_ofNat, BitVec.toNat_ofNat, IntKind.wrap_u32, UInt32.toNat_and, Nat.mod_eq_of_lt hx, Nat.mod_eq_of_lt hy]
  have := Nat.and_lt_two_pow (n := 32) x.toNat hy
  omega
theorem u32_shr (x : UInt32) (n : Nat) (h : n < 32) : n32 x / 2 ^ n = n32 (x >>> UInt32.ofNat n) := by
  unfold n32
  rw [UInt32.toNat_shiftRight, UInt32.toNat_ofNat', show n % 2 ^ 32 % 32 = n by omega, Nat.shiftRight_eq_div_pow]
  push_cast
  rfl
theorem u32_shl (x : UInt32) (n : Nat) (h : n < 32) : n32 x * 2 ^ n % 4294967296 = n32 (x <<< UInt32.ofNat n) := by
  unfold n32
  rw [UInt32.toNat_shiftLeft, UInt32.toNat_ofNat', show n % 2 ^ 32 % 32 = n by omega, Nat.shiftLeft_eq, Int.natCast_emod, Int.natCast_mul, Int.natCast_pow]
  rfl
theorem u32_add (x y : UInt32) : (n32 x + n32 y) % (4294967296 : Int) = n32 (x + y) := by
  unfold n32
  rw [UInt32.toNat_add, Int.natCast_emod, Int.natCast_add]
  rfl
theorem u32_add4 (a b c d : UInt32) : (n32 a + n32 b + n32 c + n32 d) % (4294967296 : Int) = n32 (a + b + c + d) := by
  have h1 := u32_add a b
  have h2 := u32_add (a + b) c
  have h3 := u32_add (a + b + c) d
  omega
theorem n32_range (x : UInt32) : 0 ≤ n32 x ∧ n32 x < 4294967296 := by
  have := x.toNat_lt
  unfold n32; omega
theorem n8_range (x : UInt8) : 0 ≤ n8 x ∧ n8 x < 256 := by
  have := x.toNat_lt
  unfold n8; omega
theorem u32_shr3 (x : UInt32) : n32 x / (8 : Int) = n32 (x >>> 3) := u32_shr x 3 (by omega)
theorem u32_shr10 (x : UInt32) : n32 x / (1024 : Int) = n32 (x >>> 10) := u32_shr x 10 (by omega)
theorem u8_conv (x : UInt8) : n8 x % (4294967296 : Int) = n32 x.toUInt32 := by
  have := x.toNat_lt
  unfold n8 n32
  rw [UInt8.toNat_toUInt32]; omega
theorem u32_shl24 (x : UInt32) : n32 x * (16777216 : Int) % (4294967296 : Int) = n32 (x <<< 24) := u32_shl x 24 (by omega)
theorem u32_shl16 (x : UInt32) : n32 x * (65536 : Int) % (4294967296 : Int) = n32 (x <<< 16) := u32_shl x 16 (by omega)
theorem u32_shl8 (x : UInt32) : n32 x * (256 : Int) % (4294967296 : Int) = n32 (x <<< 8) := u32_shl x 8 (by omega)
theorem u32_not (x : UInt32) : bits .xor .u32 (n32 x) (4294967295 : Int) = n32 (~~~x) := by
  have h := bits_u32_xor x 4294967295
  rw [show n32 (4294967295 : UInt32) = 4294967295 from rfl] at h
  rw [h, show (4294967295 : UInt32) = -1 from rfl, UInt32.xor_neg_one]
theorem u32_not' (x : UInt32) : bits .xor .u32 (4294967295 : Int) (n32 x) = n32 (~~~x) := by
  have h := bits_u32_xor 4294967295 x
  rw [show n32 (4294967295 : UInt32) = 4294967295 from rfl] at h
  rw [h, show (4294967295 : UInt32) = -1 from rfl, UInt32.neg_one_xor]

theorem u32_notm (x : UInt32) : bits .xor .u32 IntKind.u32.max (n32 x) = n32 (~~~x) := u32_not' x

theorem rotR_calls (x : UInt32) (n : Nat) (h1 : 0 < n) (h2 : n < 32) (w : World) : Calls Tryd.prog 43 #[u x, .int .u64 n] w (fun e w' => e = .returned (u (Spec.rr x n)) ∧ w' = w) := by
  unfold u
  go_enter Tryd.func43, Tryd.ntmps43
  go_wp2
  rw [u32_shr x n h2, u32_shl x (32 - n) (by omega), bits_u32_or]
  go_ret
  exact ⟨rfl, rfl⟩
theorem call2 (x : UInt32) (w : World) : Calls Tryd.prog 43 #[.int .u32 (n32 x), .int .u64 2] w (fun e w' => e = .returned (.int .u32 (n32 (Spec.rr x 2))) ∧ w' = w) := rotR_calls x 2 (by omega) (by omega) w
theorem call6 (x : UInt32) (w : World) : Calls Tryd.prog 43 #[.int .u32 (n32 x), .int .u64 6] w (fun e w' => e = .returned (.int .u32 (n32 (Spec.rr x 6))) ∧ w' = w) := rotR_calls x 6 (by omega) (by omega) w
theorem call7 (x : UInt32) (w : World) : Calls Tryd.prog 43 #[.int .u32 (n32 x), .int .u64 7] w (fun e w' => e = .returned (.int .u32 (n32 (Spec.rr x 7))) ∧ w' = w) := rotR_calls x 7 (by omega) (by omega) w
theorem call11 (x : UInt32) (w : World) : Calls Tryd.prog 43 #[.int .u32 (n32 x), .int .u64 11] w (fun e w' => e = .returned (.int .u32 (n32 (Spec.rr x 11))) ∧ w' = w) := rotR_calls x 11 (by omega) (by omega) w
theorem call13 (x : UInt32) (w : World) : Calls Tryd.prog 43 #[.int .u32 (n32 x), .int .u64 13] w (fun e w' => e = .returned (.int .u32 (n32 (Spec.rr x 13))) ∧ w' = w) := rotR_calls x 13 (by omega) (by omega) w
theorem call17 (x : UInt32) (w : World) : Calls Tryd.prog 43 #[.int .u32 (n32 x), .int .u64 17] w (fun e w' => e = .returned (.int .u32 (n32 (Spec.rr x 17))) ∧ w' = w) := rotR_calls x 17 (by omega) (by omega) w
theorem call18 (x : UInt32) (w : World) : Calls Tryd.prog 43 #[.int .u32 (n32 x), .int .u64 18] w (fun e w' => e = .returned (.int .u32 (n32 (Spec.rr x 18))) ∧ w' = w) := rotR_calls x 18 (by omega) (by omega) w
theorem call19 (x : UInt32) (w : World) : Calls Tryd.prog 43 #[.int .u32 (n32 x), .int .u64 19] w (fun e w' => e = .returned (.int .u32 (n32 (Spec.rr x 19))) ∧ w' = w) := rotR_calls x 19 (by omega) (by omega) w
theorem call22 (x : UInt32) (w : World) : Calls Tryd.prog 43 #[.int .u32 (n32 x), .int .u64 22] w (fun e w' => e = .returned (.int .u32 (n32 (Spec.rr x 22))) ∧ w' = w) := rotR_calls x 22 (by omega) (by omega) w
theorem call25 (x : UInt32) (w : World) : Calls Tryd.prog 43 #[.int .u32 (n32 x), .int .u64 25] w (fun e w' => e = .returned (.int .u32 (n32 (Spec.rr x 25))) ∧ w' = w) := rotR_calls x 25 (by omega) (by omega) w
theorem rot_val (x : UInt32) (n : Nat) (h2 : n < 32) (h1 : 0 < n) : bits .or .u32 (n32 x / 2 ^ n) (n32 x * 2 ^ (32 - n) % 4294967296) = n32 (Spec.rr x n) := by
  rw [u32_shr x n h2, u32_shl x (32 - n) (by omega), bits_u32_or]; rfl
theorem rot_val' (x : UInt32) (n : Nat) (p q : Int) (h2 : n < 32) (h1 : 0 < n) (hp : p = 2 ^ n) (hq : q = 2 ^ (32 - n)) : bits .or .u32 (n32 x / p) (n32 x * q % 4294967296) = n32 (Spec.rr x n) := by
  subst hp; subst hq; exact rot_val x n h2 h1
theorem rot2 (x : UInt32) : bits .or .u32 (n32 x / (4 : Int)) (n32 x * (1073741824 : Int) % (4294967296 : Int)) = n32 (Spec.rr x 2) := rot_val' x 2 _ _ (by omega) (by omega) (by decide) (by decide)
theorem rot6 (x : UInt32) : bits .or .u32 (n32 x / (64 : Int)) (n32 x * (67108864 : Int) % (4294967296 : Int)) = n32 (Spec.rr x 6) := rot_val' x 6 _ _ (by omega) (by omega) (by decide) (by decide)
theorem rot7 (x : UInt32) : bits .or .u32 (n32 x / (128 : Int)) (n32 x * (33554432 : Int) % (4294967296 : Int)) = n32 (Spec.rr x 7) := rot_val' x 7 _ _ (by omega) (by omega) (by decide) (by decide)
theorem rot11 (x : UInt32) : bits .or .u32 (n32 x / (2048 : Int)) (n32 x * (2097152 : Int) % (4294967296 : Int)) = n32 (Spec.rr x 11) := rot_val' x 11 _ _ (by omega) (by omega) (by decide) (by decide)
theorem rot13 (x : UInt32) : bits .or .u32 (n32 x / (8192 : Int)) (n32 x * (524288 : Int) % (4294967296 : Int)) = n32 (Spec.rr x 13) := rot_val' x 13 _ _ (by omega) (by omega) (by decide) (by decide)
theorem rot17 (x : UInt32) : bits .or .u32 (n32 x / (131072 : Int)) (n32 x * (32768 : Int) % (4294967296 : Int)) = n32 (Spec.rr x 17) := rot_val' x 17 _ _ (by omega) (by omega) (by decide) (by decide)
theorem rot18 (x : UInt32) : bits .or .u32 (n32 x / (262144 : Int)) (n32 x * (16384 : Int) % (4294967296 : Int)) = n32 (Spec.rr x 18) := rot_val' x 18 _ _ (by omega) (by omega) (by decide) (by decide)
theorem rot19 (x : UInt32) : bits .or .u32 (n32 x / (524288 : Int)) (n32 x * (8192 : Int) % (4294967296 : Int)) = n32 (Spec.rr x 19) := rot_val' x 19 _ _ (by omega) (by omega) (by decide) (by decide)
theorem rot22 (x : UInt32) : bits .or .u32 (n32 x / (4194304 : Int)) (n32 x * (1024 : Int) % (4294967296 : Int)) = n32 (Spec.rr x 22) := rot_val' x 22 _ _ (by omega) (by omega) (by decide) (by decide)
theorem rot25 (x : UInt32) : bits .or .u32 (n32 x / (33554432 : Int)) (n32 x * (128 : Int) % (4294967296 : Int)) = n32 (Spec.rr x 25) := rot_val' x 25 _ _ (by omega) (by omega) (by decide) (by decide)
set_option maxHeartbeats 1000000 in
theorem turned_calls (x : UInt32) (n : Nat) (h : n ∈ [2, 6, 7, 11, 13, 17, 18, 19, 22, 25]) (w : World) : Calls Tryd.prog 42 #[u x, .int .i64 n] w (fun e w' => e = .returned (u (Spec.rr x n)) ∧ ∃ m, w' = w.drewN m) := by
  unfold u
  simp only [List.mem_cons, List.not_mem_nil, or_false] at h
  have H := rot_val' x n (2 ^ n) (2 ^ (32 - n)) (by omega) (by omega) rfl rfl
  rcases h with rfl | rfl | rfl | rfl | rfl | rfl | rfl | rfl | rfl | rfl
  all_goals
    simp only [Int.cast_ofNat_Int]
    simp only [Nat.reduceSub, Int.reducePow] at H
    generalize Spec.rr x _ = y at H ⊢
    go_enter Tryd.func42, Tryd.ntmps42
    go_wp2
    go_quiet (fail)
    go_wp2
    go_ret
    exact ⟨rfl, _, rfl⟩
end Go.Proofs.YtnkhhnfmijljbaaDoor
set_option linter.unusedVariables false
set_option linter.unusedSimpArgs false
namespace Go.Proofs.YtnkhhnfmijljbaaDoor
open Go.RowKit Go.Proofs.YtnkhhnfmijljbaaDoorW.PrintWords Go.Proofs.YtnkhhnfmijljbaaDoorW.PrintLast Go.Proofs.YtnkhhnfmijljbaaDoorW.PrintMore
open Extern.Stop (cell)
attribute [local go_sem] u32_add u32_shr3 u32_shr10 u8_conv u32_shl24 u32_shl16 u32_shl8 bits_u32_xor bits_u32_or bits_u32_and u32_not u32_not' u32_notm rot2 rot6 rot7 rot11 rot13 rot17 rot18 rot19 rot22 rot25

theorem wp_world {P : Program} {c : Code} {Q : Exit → Act → World → Prop} {a : Act} {w : World} (F : World → Prop) (h : F w) (k : ∀ w, F w → c.wp P Q a w) : c.wp P Q a w := k w h
theorem wp_stop {p : Prop} (h : p) : p := h
theorem cell_sh {w w' : World} (h : w'.heap = w.heap) (a : Addr) : w.cell? a = w'.cell? a := by simp [World.cell?, h]
/-- block b holds the cells L, and may be written -/
def Row (w : World) (b : Nat) (L : List Value) (t : TypeId) : Prop := w.heap[b]? = some (.cells L.toArray t (0, 0))
section
variable {w w' : World} {b : Nat} {L : List Value} {t : TypeId}
theorem Row.cell (h : Row w b L t) {k : Nat} {v : Value} (hv : L[k]? = some v) : w.cell? ⟨b, k, none⟩ = some v := by
  rw [cell_of_row w b k _ t _ h]; simpa using hv
theorem Row.lt (h : Row w b L t) : b < w.heap.size := by
  by_cases hh : b < w.heap.size
  · exact hh
  · unfold Row at h; rw [Array.getElem?_eq_none (by omega)] at h; cases h
theorem Row.free (h : Row w b L t) (k : Nat) : w.frozen? ⟨b, k, none⟩ = false := by
  unfold Row at h; simp [World.frozen?, h]
theorem Row.set (h : Row w b L t) (k : Nat) (v : Value) : Row (w.setCell ⟨b, k, none⟩ v) b (L.set k v) t := by
  unfold Row; rw [heap_setCell_same w b k _ t v h, List.setIfInBounds_toArray]
theorem Row.other (h : Row w b L t) (a : Addr) (v : Value) (hne : b ≠ a.block) : Row (w.setCell a v) b L t := by
  unfold Row; rw [heap_setCell_other w a b v hne]; exact h
theorem Row.below {B : Nat} (h : Row w b L t) (hb : Below B w w') (hlt : b < B) : Row w' b L t := by
  unfold Row; rw [hb.block b hlt]; exact h
theorem Row.alloc (w : World) (L : List Value) (t : TypeId) : Row (w.alloc (.cells L.toArray t)) w.heap.size L t := heap_alloc_new _ _
theorem Row.alloc_other (h : Row w b L t) (o : Obj) : Row (w.alloc o) b L t := by
  unfold Row; rw [Below.heap_alloc _ _ _ h.lt]; exact h
theorem below_drewN {B : Nat} {a : World} (h : Below B a w) (n : Nat) : Below B a (w.drewN n) := ⟨h.os, h.tape, h.output, h.size, h.block⟩
theorem Row.drew (h : Row w b L t) : Row w.drew b L t := h
end
/-- a state's cells -/
def stL (v : Spec.V) (rest : List UInt8) (held taken : Int) : List Value := v.list.map u ++ (rest.map cell ++ [.int .i64 held, .int .i64 taken])
theorem stL_rest (v : Spec.V) (rest : List UInt8) (held taken : Int) (k : Nat) (hk : k < rest.length) : (stL v rest held taken)[8 + k]? = some (.int .u8 (n8 (rest.getD k 0))) := by
  have h8 : (v.list.map u).length = 8 := rfl
  rw [stL, List.getElem?_append_right (by omega), h8, show 8 + k - 8 = k by omega, List.getElem?_append_left (by simpa using hk)]
  simp [List.getD, hk, Extern.Stop.cell, n8]
theorem stL_word (v : Spec.V) (rest : List UInt8) (held taken : Int) (k : Nat) (hk : k < 8) : (stL v rest held taken)[k]? = some (.int .u32 (n32 (v.list.getD k 0))) := by
  have h8 : (v.list.map u).length = 8 := rfl
  have h8' : v.list.length = 8 := rfl
  rw [stL, List.getElem?_append_left (by omega)]
  simp [List.getD, hk, h8', u]
/-- all but block g is as it was -/
structure Only (w : World) (g : Nat) (w' : World) : Prop where
  os : w'.os = w.os
  tape : w'.tape = w.tape
  output : w'.output = w.output
  size : w.heap.size ≤ w'.heap.size
  block : ∀ k, k < w.heap.size → k ≠ g → w'.heap[k]? = w.heap[k]?
theorem Only.of_below {w w' : World} (g : Nat) (h : Below w.heap.size w w') : Only w g w' := ⟨h.os, h.tape, h.output, h.size, fun k hk _ => h.block k hk⟩
theorem Only.set {w w' : World} {g : Nat} (h : Only w g w') (k : Nat) (v : Value) : Only w g (w'.setCell ⟨g, k, none⟩ v) :=
  ⟨h.os, h.tape, h.output, by simpa using h.size, fun j hj hne => by rw [heap_setCell_other _ _ _ _ hne]; exact h.block j hj hne⟩
theorem Only.drewN {w w' : World} {g : Nat} (h : Only w g w') (n : Nat) : Only w g (w'.drewN n) := ⟨h.os, h.tape, h.output, h.size, h.block⟩
theorem Only.drew {w w' : World} {g : Nat} (h : Only w g w') : Only w g w'.drew := ⟨h.os, h.tape, h.output, h.size, h.block⟩
theorem Only.row {w w' : World} {g b : Nat} {L : List Value} {t : TypeId} (h : Only w g w') (hr : Row w b L t) (hne : b ≠ g) : Row w' b L t := by
  unfold Row; rw [h.block b hr.lt hne]; exact hr
/-- the words behind i additions -/
def part (s v : Spec.V) (i : Nat) : Spec.V := ⟨if 0 < i then s.a + v.a else s.a, if 1 < i then s.b + v.b else s.b, if 2 < i then s.c + v.c else s.c, if 3 < i then s.d + v.d else s.d, if 4 < i then s.e + v.e else s.e, if 5 < i then s.f + v.f else s.f, if 6 < i then s.g + v.g else s.g, if 7 < i then s.h + v.h else s.h⟩
theorem part_at (s v : Spec.V) (i : Nat) (h : i < 8) : (part s v i).list.getD i 0 = s.list.getD i 0 := by
  match i, h with
  | 0, _ | 1, _ | 2, _ | 3, _ | 4, _ | 5, _ | 6, _ | 7, _ => rfl
theorem part_set (s v : Spec.V) (rest : List UInt8) (held taken : Int) (i : Nat) (h : i < 8) : (stL (part s v i) rest held taken).set i (.int .u32 (n32 (s.list.getD i 0 + v.list.getD i 0))) = stL (part s v (i + 1)) rest held taken := by
  match i, h with
  | 0, _ | 1, _ | 2, _ | 3, _ | 4, _ | 5, _ | 6, _ | 7, _ => rfl
/-- the table k lies where the program keeps it -/
def KTab (w : World) : Prop := 4 < w.heap.size ∧ w.rangeAt 4 0 (Spec.K.map u)
theorem K_at (t : Nat) (h : t < 64) : (Spec.K.map u)[t]? = some (.int .u32 (n32 (Spec.K.getD t 0))) := by
  have hl : t < Spec.K.length := h
  rw [List.getElem?_map, List.getD, List.getElem?_eq_getElem hl]; rfl
def u0s (n : Nat) : List Value := List.replicate n (u 0)
def schL (b : List UInt8) (t : Nat) : List Value := (Spec.sched b t).map u ++ u0s (64 - t)
theorem schL_old (b : List UInt8) (t k : Nat) (h : k < t) : (schL b t)[k]? = some (.int .u32 (n32 ((Spec.sched b t).getD k 0))) := by
  rw [schL, List.getElem?_append_left (by simpa [Spec.sched_length] using h)]
  simp [List.getD, Spec.sched_length, h, u]
theorem schL_new (b : List UInt8) (t k : Nat) (h : t ≤ k) (h2 : k < 64) : (schL b t)[k]? = some (.int .u32 0) := by
  have hlen : ((Spec.sched b t).map u).length = t := by simp [Spec.sched_length]
  rw [schL, List.getElem?_append_right (by omega), hlen, u0s, List.getElem?_replicate, if_pos (by omega)]
  rfl
theorem schL_set (b : List UInt8) (t : Nat) (h : t < 64) (x : UInt32) (hx : x = Spec.nextW b (Spec.sched b t) t) : (schL b t).set t (.int .u32 (n32 x)) = schL b (t + 1) := by
  subst hx
  have hlen : ((Spec.sched b t).map u).length = t := by simp [Spec.sched_length]
  rw [schL, List.set_append_right _ _ (by omega), hlen, Nat.sub_self, schL, Spec.sched, u0s, show 64 - t = (64 - (t + 1)) + 1 by omega, List.replicate_succ]
  simp [u, u0s]

set_option maxHeartbeats 1000000 in
set_option maxRecDepth 100000 in
theorem block_calls (w : World) (g : Nat) (v : Spec.V) (rest : List UInt8) (held taken : Int) (hl : rest.length = 64) (hK : KTab w) (hg : Row w g (stL v rest held taken) 76) :
    Calls Tryd.prog 35 #[.pointer (some ⟨g, 0, none⟩), .pointer (some ⟨g, 8, none⟩)] w (fun e w' => e = .returned (.tuple #[]) ∧ Only w g w' ∧ Row w' g (stL (Spec.mix v rest) rest held taken) 76) := by
  have hlt := hg.lt
  go_enter Tryd.func35, Tryd.ntmps35
  go_wp2
  refine wp_world (fun w1 => Below w.heap.size w w1 ∧ w1.heap.size = w.heap.size + 1 ∧ Row w1 w.heap.size (schL rest 0) 86) ⟨Below.alloc (Below.refl _ _) (Nat.le_refl _) _, by simp, Row.alloc w (schL rest 0) 86⟩ ?_
  rintro w1 ⟨hB1, hS1, hW1⟩
  have HG := Aside0.mk hg
  have HK := Aside0.mk hK
  have HB1 := Aside0.mk hB1
  have HS1 := Aside0.mk hS1
  have HW1 := Aside0.mk hW1
  clear hB1 hS1 hW1 hg hK
  go_loopw [15] (fun i wr => ∃ (t : Nat), t ≤ 64 ∧ i = .int .i64 t ∧ Below w.heap.size w wr ∧ wr.heap.size = w.heap.size + 1 ∧ Row wr w.heap.size (schL rest t) 86)
    (fun i _ => 64 - (intOf i).toNat)
  case atStart => exact ⟨0, by omega, rfl, HB1.out, HS1.out, HW1.out⟩
  case round =>
    obtain ⟨t, ht, rfl, hB, hS, hW⟩ := hrel
    by_cases hlt : t < 64
    · by_cases h16 : t < 16
      · have HB := Aside0.mk hB
        have HS := Aside0.mk hS
        have HW := Aside0.mk hW
        have hgr := HG.out.below HB.out HG.out.lt
        have c0 := hgr.cell (stL_rest v rest held taken (4 * t) (by omega))
        have c1 := hgr.cell (stL_rest v rest held taken (4 * t + 1) (by omega))
        have c2 := hgr.cell (stL_rest v rest held taken (4 * t + 2) (by omega))
        have c3 := hgr.cell (stL_rest v rest held taken (4 * t + 3) (by omega))
        clear hB hS hW hgr
        obtain ⟨x0, hx0⟩ : ∃ x, x = rest.getD (4 * t) 0 := ⟨_, rfl⟩
        obtain ⟨x1, hx1⟩ : ∃ x, x = rest.getD (4 * t + 1) 0 := ⟨_, rfl⟩
        obtain ⟨x2, hx2⟩ : ∃ x, x = rest.getD (4 * t + 2) 0 := ⟨_, rfl⟩
        obtain ⟨x3, hx3⟩ : ∃ x, x = rest.getD (4 * t + 3) 0 := ⟨_, rfl⟩
        rw [← hx0] at c0
        rw [← hx1] at c1
        rw [← hx2] at c2
        rw [← hx3] at c3
        have HX : Aside0 (Spec.be x0 x1 x2 x3 = Spec.nextW rest (Spec.sched rest t) t) := Aside0.mk (by rw [Spec.nextW, if_pos h16, hx0, hx1, hx2, hx3])
        clear hx0 hx1 hx2 hx3
        go_wp2
        refine wp_region_still_tail 39 (by kernel_rfl) (by kernel_rfl) ?_
        simp only [List.take_succ_cons, List.take_zero, List.drop_succ_cons, List.drop_zero]
        have b0 : (0 : Int) ≤ 4 * t ∧ 4 * (t : Int) < 64 := by omega
        have b1 : (0 : Int) ≤ 4 * t + 1 ∧ 4 * (t : Int) + 1 < 64 := by omega
        have b2 : (0 : Int) ≤ 4 * t + 2 ∧ 4 * (t : Int) + 2 < 64 := by omega
        have b3 : (0 : Int) ≤ 4 * t + 3 ∧ 4 * (t : Int) + 3 < 64 := by omega
        have b4 : (0 : Int) ≤ t ∧ (t : Int) < 64 := by omega
        repeat (refine wpStill_step (fun K hK => ?_); go_simp; (try go_bits); with_reducible refine hK _ ?_; clear hK K)
        refine wpStill_nil ?_
        change wpList _ _ _ _ _ wr.drew
        clear c0 c1 c2 c3
        have cw := HW.out.cell (schL_new rest t t (by omega) hlt)
        have cf := HW.out.free t
        go_wp2
        go_roundw
        case measure => simp [intOf]; omega
        case rel =>
          refine ⟨t + 1, by omega, by simp, (HB.out.setCell (p := ⟨w.heap.size, t, none⟩) (Nat.le_refl _) _).drew, by simpa using HS.out, ?_⟩
          have := HW.out.set t (.int .u32 (n32 (Spec.be x0 x1 x2 x3)))
          rw [schL_set rest t hlt _ HX.out] at this
          exact this
      · have HB := Aside0.mk hB
        have HS := Aside0.mk hS
        have HW := Aside0.mk hW
        have c0 := hW.cell (schL_old rest t (t - 15) (by omega))
        have c1 := hW.cell (schL_old rest t (t - 2) (by omega))
        have c2 := hW.cell (schL_old rest t (t - 7) (by omega))
        have c3 := hW.cell (schL_old rest t (t - 16) (by omega))
        have cw := hW.cell (schL_new rest t t (by omega) hlt)
        have cf := hW.free t
        clear hB hS hW
        obtain ⟨x, hx⟩ : ∃ x, x = (Spec.sched rest t).getD (t - 15) 0 := ⟨_, rfl⟩
        obtain ⟨y, hy⟩ : ∃ x, x = (Spec.sched rest t).getD (t - 2) 0 := ⟨_, rfl⟩
        obtain ⟨z, hz⟩ : ∃ x, x = (Spec.sched rest t).getD (t - 7) 0 := ⟨_, rfl⟩
        obtain ⟨q, hq⟩ : ∃ x, x = (Spec.sched rest t).getD (t - 16) 0 := ⟨_, rfl⟩
        rw [← hx] at c0
        rw [← hy] at c1
        rw [← hz] at c2
        rw [← hq] at c3
        have HX : Aside0 (Spec.s1 y + (z + q + Spec.s0 x) = Spec.nextW rest (Spec.sched rest t) t) := Aside0.mk (by rw [Spec.nextW, if_neg h16, hx, hy, hz, hq])
        have HZ := Aside0.mk (schL_old rest t (t - 7) (by omega))
        have HQ := Aside0.mk (schL_old rest t (t - 16) (by omega))
        rw [← hz] at HZ
        rw [← hq] at HQ
        clear hx hy hz hq
        go_wp2
        go_quiet (fail)
        go_wp2
        refine wp_world (fun w2 => Below w.heap.size w w2 ∧ w2.heap.size = w.heap.size + 1 ∧ Row w2 w.heap.size ((schL rest t).set t (.int .u32 (n32 (Spec.s1 y)))) 86)
          ⟨(below_drewN HB.out nq).setCell (p := ⟨w.heap.size, t, none⟩) (Nat.le_refl _) _, by simpa using HS.out, Row.set (w := wr.drewN nq) HW.out t _⟩ ?_
        rintro w2 ⟨hB2, hS2, hW2⟩
        have HB2 := Aside0.mk hB2
        have HS2 := Aside0.mk hS2
        have HW2 := Aside0.mk hW2
        have d0 := hW2.cell (k := t) (v := .int .u32 (n32 (Spec.s1 y))) (by rw [List.getElem?_set_self]; simp [schL, Spec.sched_length, u0s]; omega)
        have d2 := hW2.cell (k := t - 7) (v := .int .u32 (n32 z)) (by rw [List.getElem?_set_ne (by omega)]; exact HZ.out)
        have d3 := hW2.cell (k := t - 16) (v := .int .u32 (n32 q)) (by rw [List.getElem?_set_ne (by omega)]; exact HQ.out)
        have df := hW2.free t
        clear hB2 hS2 hW2 c0 c1 c2 c3 cw cf
        refine wp_region_still_tail 23 (by kernel_rfl) (by kernel_rfl) ?_
        simp only [List.take_succ_cons, List.take_zero, List.drop_succ_cons, List.drop_zero]
        have b4 : (0 : Int) ≤ t ∧ (t : Int) < 64 := by omega
        have b5 : (7 : Int) ≤ t := by omega
        have b6 : (16 : Int) ≤ t := by omega
        have b7 : (t : Int) - 7 < 64 := by omega
        have b8 : (t : Int) - 16 < 64 := by omega
        repeat (first
          | (refine wpStill_step (fun K hK => ?_); go_simp; (try go_bits); with_reducible refine hK _ ?_; clear hK K)
          | (refine wpStill_step (fun K hK => ?_); go_simp; with_reducible refine ⟨_, call7 x _, hK _ ?_⟩; clear hK K)
          | (refine wpStill_step (fun K hK => ?_); go_simp; with_reducible refine ⟨_, call18 x _, hK _ ?_⟩; clear hK K))
        refine wpStill_nil ?_
        change wpList _ _ _ _ _ w2.drew
        clear d2 d3
        go_wp2
        go_roundw
        case measure => simp [intOf]; omega
        case rel =>
          refine ⟨t + 1, by omega, by simp, (HB2.out.setCell (p := ⟨w.heap.size, t, none⟩) (Nat.le_refl _) _).drew, by simpa using HS2.out, ?_⟩
          have := HW2.out.set t (.int .u32 (n32 (Spec.s1 y + (z + q + Spec.s0 x))))
          rw [List.set_set, schL_set rest t hlt _ HX.out] at this
          exact this
    · obtain rfl : t = 64 := by omega
      have HB := Aside0.mk hB
      have HS := Aside0.mk hS
      have HW := Aside0.mk hW
      have HGr := Aside0.mk (HG.out.below HB.out HG.out.lt)
      have HV : Aside0 (wr.rangeAt g 0 (v.list.map u)) := Aside0.mk fun j x hx => by
        refine HGr.out.cell ?_
        rw [stL, Nat.zero_add, List.getElem?_append_left (List.getElem?_eq_some_iff.1 hx).1]; exact hx
      clear hB hS hW
      go_wp2_with (first
        | (with_reducible refine gate_dst (N := 104) rfl ?_; refine wpList_load_mid rfl 71 _ rfl g 0 rfl (v.list.map u) _ HV.out Tryd.underlying71 rfl (by kernel_rfl) ?_)
        | (with_reducible change wpList _ _ _ (Oper.mk _ (Op.store 71 _ _) _ _ _ _ :: _) _ _; refine Aside0.out ?_))
      refine Aside0.mk ?_
      refine wpList_store_row rfl 71 _ _ rfl wr.heap.size (v.list.map u).toArray rfl (by simp [go_sem]) 71 _ (heap_alloc_new _ _) (by kernel_rfl) rfl (all_oneCell_toArray (fun x hx => by obtain ⟨y, _, rfl⟩ := List.mem_map.1 hx; rfl)) ?_
      go_wp2
      rw [HS.out]
      refine wp_world (fun w2 => Below w.heap.size w w2 ∧ w2.heap.size = w.heap.size + 2 ∧ Row w2 w.heap.size (schL rest 64) 86 ∧ Row w2 (w.heap.size + 1) ((Spec.rounds (Spec.sched rest 64) v 0).list.map u) 71) ⟨?_, ?_, ?_, ?_⟩ ?_
      · exact Below.setRow (HB.out.alloc (by rw [HS.out]; omega) _) (by omega) _
      · simp [World.setRow, HS.out]
      · unfold Row; rw [setRow_heap_other _ _ _ _ (by omega)]; exact HW.out.alloc_other _
      · unfold Row; rw [← HS.out]; exact setRow_heap _ _ _ _ _ _ (heap_alloc_new _ _)
      rintro w2 ⟨hB2, hS2, hW2, hV2⟩
      have HB2 := Aside0.mk hB2
      have HS2 := Aside0.mk hS2
      have HW2 := Aside0.mk hW2
      have HV2 := Aside0.mk hV2
      clear hB2 hS2 hW2 hV2
      go_loopw [105] (fun i wr => ∃ (t : Nat), t ≤ 64 ∧ i = .int .i64 t ∧ Below w.heap.size w wr ∧ wr.heap.size = w.heap.size + 2 ∧ Row wr w.heap.size (schL rest 64) 86 ∧ Row wr (w.heap.size + 1) ((Spec.rounds (Spec.sched rest 64) v t).list.map u) 71)
        (fun i _ => 64 - (intOf i).toNat)
      case atStart => exact ⟨0, by omega, rfl, HB2.out, HS2.out, HW2.out, HV2.out⟩
      case round =>
        obtain ⟨t, ht, rfl, hB, hS, hW, hV⟩ := hrel
        by_cases hlt : t < 64
        · obtain ⟨V, hVV⟩ : ∃ V, V = Spec.rounds (Spec.sched rest 64) v t := ⟨_, rfl⟩
          obtain ⟨W, hWW⟩ : ∃ W, W = (Spec.sched rest 64).getD t 0 := ⟨_, rfl⟩
          obtain ⟨k, hkk⟩ : ∃ k, k = Spec.K.getD t 0 := ⟨_, rfl⟩
          rw [← hVV] at hV
          have HB := Aside0.mk hB
          have HS := Aside0.mk hS
          have HW := Aside0.mk hW
          have HV := Aside0.mk hV
          have e0 : wr.cell? ⟨w.heap.size + 1, 0, none⟩ = some (.int .u32 (n32 V.a)) := hV.cell rfl
          have e1 : wr.cell? ⟨w.heap.size + 1, 1, none⟩ = some (.int .u32 (n32 V.b)) := hV.cell rfl
          have e2 : wr.cell? ⟨w.heap.size + 1, 2, none⟩ = some (.int .u32 (n32 V.c)) := hV.cell rfl
          have e3 : wr.cell? ⟨w.heap.size + 1, 3, none⟩ = some (.int .u32 (n32 V.d)) := hV.cell rfl
          have e4 : wr.cell? ⟨w.heap.size + 1, 4, none⟩ = some (.int .u32 (n32 V.e)) := hV.cell rfl
          have e5 : wr.cell? ⟨w.heap.size + 1, 5, none⟩ = some (.int .u32 (n32 V.f)) := hV.cell rfl
          have e6 : wr.cell? ⟨w.heap.size + 1, 6, none⟩ = some (.int .u32 (n32 V.g)) := hV.cell rfl
          have e7 : wr.cell? ⟨w.heap.size + 1, 7, none⟩ = some (.int .u32 (n32 V.h)) := hV.cell rfl
          have e8 : wr.cell? ⟨w.heap.size, t, none⟩ = some (.int .u32 (n32 W)) := hWW ▸ hW.cell (schL_old rest 64 t hlt)
          have e9 : wr.cell? ⟨4, t, none⟩ = some (.int .u32 (n32 k)) := by
            rw [hB.cell (p := ⟨4, t, none⟩) HK.out.1]
            have := HK.out.2 t (.int .u32 (n32 k)) (by subst hkk; exact K_at t hlt)
            simpa using this
          have HN : Aside0 (Spec.rounds (Spec.sched rest 64) v (t + 1) = Spec.step V k W) := Aside0.mk (by rw [Spec.rounds, ← hVV, ← hWW, ← hkk])
          have b4 : (0 : Int) ≤ t ∧ (t : Int) < 64 := by omega
          clear hB hS hW hV hVV hWW hkk
          go_wp2
          go_quiet (fail)
          go_wp2
          refine wp_world (fun w3 => w3.heap = wr.heap ∧ Below w.heap.size w w3) ⟨rfl, below_drewN HB.out _⟩ ?_
          rintro w3 ⟨h3, hB3⟩
          have HB3 := Aside0.mk hB3
          rw [cell_sh h3] at e0 e1 e2 e3 e4 e5 e6 e7 e8 e9
          have H3 := Aside0.mk h3
          clear h3 hB3
          go_quiet (first | with_reducible exact Calls.quiet_of_same (call6 V.e _) | with_reducible exact Calls.quiet_of_same (call11 V.e _) | with_reducible exact Calls.quiet_of_same (call25 V.e _))
          go_wp2
          refine wp_world (fun w4 => w4.heap = w3.heap ∧ Below w.heap.size w w4) ⟨rfl, below_drewN HB3.out _⟩ ?_
          rintro w4 ⟨h4, hB4⟩
          have HB4 := Aside0.mk hB4
          rw [cell_sh h4] at e0 e1 e2 e3 e4 e5 e6 e7 e8 e9
          have H4 := Aside0.mk h4
          clear h4 hB4
          go_quiet (first | with_reducible exact Calls.quiet_of_same (call2 V.a _) | with_reducible exact Calls.quiet_of_same (call13 V.a _) | with_reducible exact Calls.quiet_of_same (call22 V.a _))
          rw [u32_add4, u32_add]
          rw [show n32 (V.h + (Spec.rr V.e 6 ^^^ Spec.rr V.e 11 ^^^ Spec.rr V.e 25) + ((V.e &&& V.f) ^^^ (~~~V.e &&& V.g)) + k + W) = n32 (Spec.tOne V k W) from rfl, show n32 ((Spec.rr V.a 2 ^^^ Spec.rr V.a 13 ^^^ Spec.rr V.a 22) + ((V.a &&& V.b) ^^^ (V.a &&& V.c) ^^^ (V.b &&& V.c))) = n32 (Spec.tTwo V) from rfl]
          go_wp2_with (with_reducible change wpList _ _ _ (Oper.mk _ (Op.store 71 _ _) _ _ _ _ :: _) _ _; refine Aside0.out ?_)
          refine Aside0.mk ?_
          rw [u32_add, u32_add]
          refine wpList_store_row rfl 71 _ _ rfl (w.heap.size + 1) ((Spec.step V k W).list.map u).toArray rfl ?hy 71 (V.list.map u).toArray ?hrow (by kernel_rfl) rfl (all_oneCell_toArray (fun x hx => by obtain ⟨y, _, rfl⟩ := List.mem_map.1 hx; rfl)) ?_
          case hy => simp [go_sem, Spec.step, Spec.V.list, u]
          case hrow => show w4.heap[_]? = _; rw [H4.out, H3.out]; exact HV.out
          go_wp2
          go_roundw
          case measure => simp [intOf]; omega
          case rel =>
            refine ⟨t + 1, by omega, by simp, Below.setRow (below_drewN HB4.out nq) (by omega) _, ?_, ?_, ?_⟩
            · simp [World.setRow]; rw [H4.out, H3.out]; exact HS.out
            · unfold Row; rw [setRow_heap_other _ _ _ _ (by omega)]; show w4.heap[_]? = _; rw [H4.out, H3.out]; exact HW.out
            · rw [HN.out]; exact setRow_heap _ _ _ _ _ _ (by show w4.heap[_]? = _; rw [H4.out, H3.out]; exact HV.out)
        · obtain rfl : t = 64 := by omega
          obtain ⟨V, hVV⟩ : ∃ V, V = Spec.rounds (Spec.sched rest 64) v 64 := ⟨_, rfl⟩
          have hm : v.add V = Spec.mix v rest := by rw [hVV]; rfl
          rw [← hVV] at hV
          have HM := Aside0.mk hm
          have HO := Aside0.mk (Only.of_below g hB)
          have HV := Aside0.mk hV
          have HGr := Aside0.mk (show Row wr g (stL (part v V 0) rest held taken) 76 from HG.out.below hB HG.out.lt)
          have HSz := Aside0.mk (show w.heap.size + 1 < wr.heap.size by omega)
          clear hB hS hW hV hVV hm
          go_wp2
          go_loopw [187] (fun i wq => ∃ (j : Nat), j ≤ 8 ∧ i = .int .i64 j ∧ Only w g wq ∧ Row wq (w.heap.size + 1) (V.list.map u) 71 ∧ Row wq g (stL (part v V j) rest held taken) 76)
            (fun i _ => 8 - (intOf i).toNat)
          case atStart => exact ⟨0, by omega, rfl, HO.out, HV.out, HGr.out⟩
          case round =>
            obtain ⟨j, hj, rfl, hO, hV, hR⟩ := hrel
            by_cases hlt : j < 8
            · have HO := Aside0.mk hO
              have HV := Aside0.mk hV
              have HR := Aside0.mk hR
              have c0 := hR.cell (stL_word (part v V j) rest held taken j hlt)
              rw [part_at v V j hlt] at c0
              have c1 : wr.cell? ⟨w.heap.size + 1, j, none⟩ = some (.int .u32 (n32 (V.list.getD j 0))) := hV.cell (by
                have hl : j < V.list.length := hlt
                rw [List.getElem?_map, List.getD, List.getElem?_eq_getElem hl]; rfl)
              have cf := hR.free j
              obtain ⟨x, hx⟩ : ∃ x, x = v.list.getD j 0 := ⟨_, rfl⟩
              obtain ⟨y, hy⟩ : ∃ y, y = V.list.getD j 0 := ⟨_, rfl⟩
              rw [← hx] at c0
              rw [← hy] at c1
              have HP := Aside0.mk (part_set v V rest held taken j hlt)
              rw [← hx, ← hy] at HP
              have b4 : (0 : Int) ≤ j ∧ (j : Int) < 8 := by omega
              clear hO hV hR hx hy
              go_wp2
              refine wp_region_still_tail 13 (by kernel_rfl) (by kernel_rfl) ?_
              simp only [List.take_succ_cons, List.take_zero, List.drop_succ_cons, List.drop_zero]
              repeat (refine wpStill_step (fun K hK => ?_); go_simp; (try go_bits); with_reducible refine hK _ ?_; clear hK K)
              refine wpStill_nil ?_
              change wpList _ _ _ _ _ wr.drew
              go_wp2
              go_roundw
              case measure => simp [intOf]; omega
              case rel =>
                refine ⟨_, _, _, _, _, _, _, _, _, _, _, _, _, _, _, _, _, _, ⟨j + 1, by omega, ?e, (HO.out.set j _).drew, ?r1, ?r2⟩, rfl⟩
                case e => simp
                case r1 => exact HV.out.other _ _ (by have := HG.out.lt; show w.heap.size + 1 ≠ g; omega)
                case r2 => rw [← HP.out]; exact HR.out.set j _
            · obtain rfl : j = 8 := by omega
              have HO := Aside0.mk hO
              have HR := Aside0.mk (show Row wr g (stL (v.add V) rest held taken) 76 from hR)
              clear hO hV hR
              go_wp2
              go_end0
              exact ⟨rfl, HO.out, HM.out ▸ HR.out⟩
end Go.Proofs.YtnkhhnfmijljbaaDoor
set_option linter.unusedVariables false
set_option linter.unusedSimpArgs false
namespace Go.Proofs.YtnkhhnfmijljbaaDoor
open Go.RowKit Go.Proofs.YtnkhhnfmijljbaaDoorW.PrintWords Go.Proofs.YtnkhhnfmijljbaaDoorW.PrintLast Go.Proofs.YtnkhhnfmijljbaaDoorW.PrintMore
open Extern.Stop (cell)

/-- bytes' numbers -/
def ints (xs : List UInt8) : List Int := xs.map n8
theorem ints_length (xs : List UInt8) : (ints xs).length = xs.length := by simp [ints]
/-- the slice (A, n) holds the bytes xs -/
def Bs (w : World) (A : Option Addr) (n : Nat) (xs : List UInt8) : Prop := Kd.C (Kd.int .u8) w A n (ints xs)
section
variable {w w' : World} {A : Option Addr} {n : Nat} {xs : List UInt8}
theorem Bs.len (h : Bs w A n xs) : n = xs.length := by have := Kd.C_len h; rw [ints_length] at this; exact this.symm
theorem Bs.max (h : Bs w A n xs) : n ≤ 9223372036854775807 := Kd.C_max h
theorem Bs.below (h : Bs w A n xs) (hb : Below w.heap.size w w') : Bs w' A n xs := Kd.C_below h hb
theorem Bs.cells (h : Bs w A n xs) (hn : 0 < n) : ∃ ad, A = some ad ∧ ∀ j v, (xs.map cell)[j]? = some v → w.cell? (ad.add j) = some v := by
  have hl := h.len
  have hR : ReadsOf (Value.int .u8) (0 : Int) w A n (ints xs) := Kd.reads_of_C (h1 := fun _ => rfl) h
  obtain ⟨ad, e, hc⟩ := hR.2.2 hn
  refine ⟨ad, e, fun j v hv => ?_⟩
  obtain ⟨hj, hv'⟩ := List.getElem?_eq_some_iff.1 hv
  rw [List.length_map] at hj
  rw [hc j (by omega), ← hv']
  simp [ints, List.getD, hj, cell, n8]
theorem Bs.cell (h : Bs w A n xs) (i : Nat) (hi : i < n) : ∃ ad, A = some ad ∧ w.cell? (ad.add i) = some (.int .u8 (n8 (xs.getD i 0))) := by
  have hl := h.len
  obtain ⟨ad, e, hc⟩ := h.cells (by omega)
  refine ⟨ad, e, hc i _ ?_⟩
  have hi' : i < xs.length := by omega
  simp [hi', List.getD, Extern.Stop.cell, n8]
theorem Bs.only {g : Nat} (h : Bs w A n xs) (hO : Only w g w') (hne : ∀ ad, A = some ad → 0 < n → ad.block ≠ g) : Bs w' A n xs :=
  Kd.C_keep (0 : Int) (h1 := fun _ => rfl) h ⟨hO.size, fun i hi hg _ => hO.block i hi hg⟩ hne
theorem Bs.drop {c : Nat} (h : Bs w A xs.length xs) (m : Nat) (hm : m ≤ xs.length) (hc : xs.length ≤ c) : Bs w (if c = m then A else A.map (·.add m)) (xs.drop m).length (xs.drop m) := by
  have h' : Kd.C (Kd.int .u8) w A (ints xs).length (ints xs) := by rw [ints_length]; exact h
  have := Kd.C_drop (m := m) (c := c) h' (by rw [ints_length]; exact hm) (by rw [ints_length]; exact hc)
  have e : (ints xs).drop m = ints (xs.drop m) := by simp [ints]
  rw [e, ints_length] at this
  simpa [Kd.int, Kd.scalar, Bs] using this
theorem Bs.take (h : Bs w A xs.length xs) (m : Nat) (hm : m ≤ xs.length) : Bs w A (xs.take m).length (xs.take m) := by
  have h' : Kd.C (Kd.int .u8) w A (ints xs).length (ints xs) := by rw [ints_length]; exact h
  have := Kd.C_take (m := m) h' (by rw [ints_length]; exact hm)
  have e : (ints xs).take m = ints (xs.take m) := by simp [ints]
  rw [e, ints_length] at this
  exact this
end
/-- the state at g has taken the bytes bs, but for its count, which is tk -/
def St (w : World) (g : Nat) (bs : List UInt8) (tk : Int) : Prop :=
  ∃ T, (Spec.restOf bs ++ T).length = 64 ∧ Row w g (stL (Spec.wordsOf bs) (Spec.restOf bs ++ T) ((bs.length % 64 : Nat) : Int) tk) 76
theorem stL_held (v : Spec.V) (rest : List UInt8) (held taken : Int) (h : rest.length = 64) : (stL v rest held taken)[72]? = some (.int .i64 held) := by
  have h8 : (v.list.map u).length = 8 := rfl
  rw [stL, List.getElem?_append_right (by omega), h8, List.getElem?_append_right (by simp [h])]
  simp [h]
theorem stL_taken (v : Spec.V) (rest : List UInt8) (held taken : Int) (h : rest.length = 64) : (stL v rest held taken)[73]? = some (.int .i64 taken) := by
  have h8 : (v.list.map u).length = 8 := rfl
  rw [stL, List.getElem?_append_right (by omega), h8, List.getElem?_append_right (by simp [h])]
  simp [h]
theorem stL_setHeld (v : Spec.V) (rest : List UInt8) (held taken x : Int) (h : rest.length = 64) : (stL v rest held taken).set 72 (.int .i64 x) = stL v rest x taken := by
  have h8 : (v.list.map u).length = 8 := rfl
  rw [stL, List.set_append_right _ _ (by omega), h8, List.set_append_right _ _ (by simp [h])]
  simp [h, stL]
theorem stL_setTaken (v : Spec.V) (rest : List UInt8) (held taken x : Int) (h : rest.length = 64) : (stL v rest held taken).set 73 (.int .i64 x) = stL v rest held x := by
  have h8 : (v.list.map u).length = 8 := rfl
  rw [stL, List.set_append_right _ _ (by omega), h8, List.set_append_right _ _ (by simp [h])]
  simp [h, stL]
theorem stL_length (v : Spec.V) (rest : List UInt8) (held taken : Int) : (stL v rest held taken).length = rest.length + 10 := by
  simp [stL, Spec.V.list]
theorem stL_copy (v : Spec.V) (R T c : List UInt8) (held taken : Int) (hc : c.length ≤ T.length) :
    (stL v (R ++ T) held taken).take (8 + R.length) ++ c.map cell ++ (stL v (R ++ T) held taken).drop (8 + R.length + c.length) = stL v (R ++ c ++ T.drop c.length) held taken := by
  have h8 : (v.list.map u).length = 8 := rfl
  have e1 : (stL v (R ++ T) held taken).take (8 + R.length) = v.list.map u ++ R.map cell := by
    rw [stL, List.take_append, h8, List.take_of_length_le (by omega), show 8 + R.length - 8 = R.length by omega, List.map_append, List.append_assoc, List.take_append_of_le_length (by simp), List.take_of_length_le (by simp)]
  have e2 : (stL v (R ++ T) held taken).drop (8 + R.length + c.length) = (T.drop c.length).map cell ++ [.int .i64 held, .int .i64 taken] := by
    rw [stL, List.drop_append, h8, List.drop_of_length_le (by omega), List.nil_append, show 8 + R.length + c.length - 8 = R.length + c.length by omega, List.drop_append_of_le_length (by simp; omega), ← List.map_drop, List.drop_append, List.drop_of_length_le (by omega), List.nil_append, show R.length + c.length - R.length = c.length by omega]
  rw [e1, e2, stL]
  simp [List.map_append, List.append_assoc]
theorem cell_block {w w' : World} {a : Addr} (h : w'.heap[a.block]? = w.heap[a.block]?) : w'.cell? a = w.cell? a := by simp [World.cell?, h]
theorem KTab.only {w w' : World} {g : Nat} (hK : KTab w) (hO : Only w g w') (hne : 4 ≠ g) : KTab w' :=
  ⟨Nat.lt_of_lt_of_le hK.1 hO.size, fun j v hv => by rw [cell_block (a := ⟨4, 0 + j, none⟩) (hO.block 4 hK.1 hne)]; exact hK.2 j v hv⟩
theorem KTab.below {w w' : World} {B : Nat} (hK : KTab w) (hb : Below B w w') (hB : 4 < B) : KTab w' :=
  ⟨Nat.lt_of_lt_of_le hK.1 hb.size, fun j v hv => by rw [cell_block (a := ⟨4, 0 + j, none⟩) (hb.block 4 hB)]; exact hK.2 j v hv⟩
theorem ne4 {w : World} {g : Nat} {V : Spec.V} {rest : List UInt8} {held tk : Int} (hK : KTab w) (hl : rest.length = 64) (hR : Row w g (stL V rest held tk) 76) : 4 ≠ g := by
  rintro rfl
  have h1 := hR.cell (stL_rest V rest held tk 0 (by omega))
  have h2 := hK.2 8 _ (K_at 8 (by omega))
  rw [Nat.zero_add] at h2
  rw [show 8 + 0 = 8 from rfl, h2] at h1
  cases h1
theorem Only.refl (w : World) (g : Nat) : Only w g w := ⟨rfl, rfl, rfl, Nat.le_refl _, fun _ _ _ => rfl⟩
theorem Only.trans {w w' w'' : World} {g : Nat} (h : Only w g w') (h' : Only w' g w'') : Only w g w'' :=
  ⟨h'.os.trans h.os, h'.tape.trans h.tape, h'.output.trans h.output, Nat.le_trans h.size h'.size, fun k hk hne => (h'.block k (Nat.lt_of_lt_of_le hk h.size) hne).trans (h.block k hk hne)⟩
theorem Only.setRow {w w' : World} {g : Nat} (h : Only w g w') (cs : Array Value) : Only w g (w'.setRow g cs) :=
  ⟨h.os, h.tape, h.output, by simpa using h.size, fun j hj hne => by rw [setRow_heap_other _ _ _ _ hne]; exact h.block j hj hne⟩
theorem Row.setRow {w : World} {b : Nat} {L L' : List Value} {t : TypeId} (h : Row w b L t) : Row (w.setRow b L'.toArray) b L' t := Go.setRow_heap _ _ _ _ _ _ h
theorem wpList_world {P : Program} {ops : Array Oper} {l : List Oper} {Q : Exit → Act → World → Prop} {a : Act} {w : World} (F : World → Prop) (h : F w) (k : ∀ w, F w → wpList P ops Q l a w) : wpList P ops Q l a w := k w h
def sliceLen : Value → Nat
  | .slice _ n _ => n
  | _ => 0
end Go.Proofs.YtnkhhnfmijljbaaDoor
set_option linter.unusedVariables false
set_option linter.unusedSimpArgs false
namespace Go.Proofs.YtnkhhnfmijljbaaDoor
open Go.RowKit Go.Proofs.YtnkhhnfmijljbaaDoorW.PrintWords Go.Proofs.YtnkhhnfmijljbaaDoorW.PrintLast Go.Proofs.YtnkhhnfmijljbaaDoorW.PrintMore
open Extern.Stop (cell)

theorem add_block (ad : Addr) (m : Nat) : (ad.add m).block = ad.block := by unfold Addr.add; split <;> rfl
theorem St.of_short {w : World} {g : Nat} {cs c T : List UInt8} {h m : Nat} {tk x : Int} (hh : h = cs.length % 64) (hm : m = c.length) (hlt : h + m < 64) (hx : x = (h : Int) + m) (hl : (Spec.restOf cs ++ c ++ T).length = 64) (hR : Row w g (stL (Spec.wordsOf cs) (Spec.restOf cs ++ c ++ T) x tk) 76) : St w g (cs ++ c) tk := by
  obtain ⟨e1, e2⟩ := Spec.rest_short cs c (by omega)
  refine ⟨T, by rw [e2]; exact hl, ?_⟩
  rw [e1, e2, show (((cs ++ c).length % 64 : Nat) : Int) = x by rw [hx, List.length_append]; omega]
  exact hR
theorem St.of_full {w : World} {g : Nat} {cs c : List UInt8} {h m : Nat} {tk : Int} (hh : h = cs.length % 64) (hm : m = c.length) (hlt : h + m = 64) (hl : (Spec.restOf cs ++ c).length = 64) (hR : Row w g (stL (Spec.mix (Spec.wordsOf cs) (Spec.restOf cs ++ c)) (Spec.restOf cs ++ c) 0 tk) 76) : St w g (cs ++ c) tk := by
  obtain ⟨e1, e2, e3⟩ := Spec.rest_full cs c (by omega)
  refine ⟨Spec.restOf cs ++ c, by rw [e2]; exact hl, ?_⟩
  rw [e1, e2, e3]
  exact hR

set_option maxHeartbeats 2000000 in
set_option maxRecDepth 100000 in
theorem write_calls (w : World) (g : Nat) (bs : List UInt8) (A : Option Addr) (c : Nat) (xs : List UInt8) (hK : KTab w) (hS : St w g bs bs.length) (hx : Bs w A xs.length xs) (hc : xs.length ≤ c)
    (hne : ∀ ad, A = some ad → 0 < xs.length → ad.block ≠ g) (hlen : bs.length + xs.length < 4611686018427387904) :
    Calls Tryd.prog 20 #[.pointer (some ⟨g, 0, none⟩), .slice A xs.length c] w (fun e w' => e = .returned (.tuple #[]) ∧ Only w g w' ∧ St w' g (bs ++ xs) (bs ++ xs).length) := by
  obtain ⟨T, hT, hR⟩ := hS
  have ct := hR.cell (stL_taken _ _ _ _ hT)
  have cf := hR.free 73
  have H4 := Aside0.mk (ne4 hK hT hR)
  have HR := Aside0.mk hR
  have HT := Aside0.mk hT
  have HK := Aside0.mk hK
  have HX := Aside0.mk hx
  have HC := Aside0.mk hc
  have HNE := Aside0.mk hne
  clear hR hT hK hx hc hne
  go_enter Tryd.func20, Tryd.ntmps20
  go_wp2
  refine wp_world (fun w1 => Only w g w1 ∧ St w1 g bs ((bs.length + xs.length : Nat) : Int)) ⟨(Only.refl w g).set 73 _, T, HT.out, ?_⟩ ?_
  · have := HR.out.set 73 (.int .i64 ((bs.length : Int) + xs.length))
    rw [stL_setTaken _ _ _ _ _ HT.out] at this
    simpa using this
  rintro w1 ⟨hO1, hS1⟩
  have HO1 := Aside0.mk hO1
  have HS1 := Aside0.mk hS1
  have HX1 := Aside0.mk (HX.out.only hO1 HNE.out)
  clear hO1 hS1 ct cf
  go_loopw [1] (fun sl wr => ∃ (k : Nat) (A' : Option Addr) (c' : Nat) (n' : Nat), k ≤ xs.length ∧ n' = xs.length - k ∧ sl = .slice A' n' c' ∧ n' ≤ c' ∧ Bs wr A' n' (xs.drop k) ∧ (∀ ad, A' = some ad → 0 < n' → ad.block ≠ g) ∧ Only w g wr ∧ St wr g (bs ++ xs.take k) ((bs.length + xs.length : Nat) : Int))
    (fun sl _ => sliceLen sl)
  case atStart => exact ⟨0, A, c, xs.length, by omega, by omega, rfl, HC.out, HX1.out, HNE.out, HO1.out, by simpa using HS1.out⟩
  case round =>
    obtain ⟨k, A', c', n', hk, hn', rfl, hc', hB, hne', hO, T', hT', hR'⟩ := hrel
    have HN := Aside0.mk hn'
    by_cases h0 : n' = 0
    · subst h0
      have HE := Aside0.mk (show xs.take k = xs from List.take_of_length_le (by omega))
      have HO := Aside0.mk hO
      have HR' := Aside0.mk hR'
      have HT' := Aside0.mk hT'
      clear hO hR' hT' hB hne' hn'
      go_wp2
      go_end0
      refine ⟨rfl, HO.out, T', ?_, ?_⟩
      · have := HT'.out; rwa [HE.out] at this
      · have := HR'.out; rw [HE.out] at this; simpa using this
    · obtain ⟨ad, rfl, hcell⟩ := hB.cells (by omega)
      have hpos : 0 < n' := by omega
      have hadg := hne' ad rfl hpos
      obtain ⟨cs, hcs⟩ : ∃ cs, cs = bs ++ xs.take k := ⟨_, rfl⟩
      rw [← hcs] at hR' hT'
      have hrl := Spec.restOf_length cs
      have hTl : T'.length = 64 - cs.length % 64 := by rw [List.length_append, hrl] at hT'; omega
      have ch := hR'.cell (stL_held _ _ _ _ hT')
      have cf := hR'.free 72
      have HO := Aside0.mk hO
      have HR' := Aside0.mk hR'
      have HT' := Aside0.mk hT'
      have HB := Aside0.mk hB
      have HCS := Aside0.mk hcs
      have HCELL := Aside0.mk hcell
      have HRL := Aside0.mk hrl
      have HTL := Aside0.mk hTl
      have HAD := Aside0.mk hadg
      obtain ⟨h, hh⟩ : ∃ h, h = cs.length % 64 := ⟨_, rfl⟩
      rw [← hh] at ch
      have hlt : h < 64 := by omega
      have b2 : ¬ (64 = h) := by omega
      have b1 : (0 : Int) ≤ h ∧ (h : Int) ≤ 64 := by omega
      have HH := Aside0.mk hh
      clear hO hR' hT' hB hne' hn' hcell hcs hrl hTl hadg hh
      go_wp2
      refine wp_region_still_tail 9 (by kernel_rfl) (by kernel_rfl) ?_
      simp only [List.take_succ_cons, List.take_zero, List.drop_succ_cons, List.drop_zero]
      repeat (refine wpStill_step (fun K hK => ?_); go_simp; (try go_bits); with_reducible refine hK _ ?_; clear hK K)
      refine wpStill_nil ?_
      change wpList _ _ _ _ _ wr.drew
      obtain ⟨c, hc⟩ : ∃ c, c = (xs.drop k).take (64 - h) := ⟨_, rfl⟩
      obtain ⟨m, hm⟩ : ∃ m, m = c.length := ⟨_, rfl⟩
      have hmn : m = min n' (64 - h) := by rw [hm, hc, List.length_take, List.length_drop, HN.out]; omega
      refine Lib.wpList_copy_run _ rfl _ _ 24 24 rfl _ _ rfl rfl (run_copy_row _ _ 24 24 _ 5 g (8 + h) (64 - h) (64 - h) ad n' c' (stL (Spec.wordsOf cs) (Spec.restOf cs ++ T') (cs.length % 64 : Nat) ((bs.length + xs.length : Nat) : Int)).toArray 76 (c.map cell) Tryd.underlying24 (by kernel_rfl) HR'.out ?hn ?hsrc ?hfit ?h1) ?_
      case hn => rw [List.length_map, ← hm, hmn]
      case hsrc => exact fun j v hv => HCELL.out j v (by
        rw [hc, List.map_take, List.getElem?_take] at hv
        split at hv
        · exact hv
        · cases hv)
      case hfit => simp [stL_length, HT'.out]; omega
      case h1 => intro v hv; obtain ⟨y, _, rfl⟩ := List.mem_map.1 hv; rfl
      have hrow : Row (wr.drew.setRow g ((stL (Spec.wordsOf cs) (Spec.restOf cs ++ T') (cs.length % 64 : Nat) ((bs.length + xs.length : Nat) : Int)).toArray.toList.take (8 + h) ++ c.map cell ++ (stL (Spec.wordsOf cs) (Spec.restOf cs ++ T') (cs.length % 64 : Nat) ((bs.length + xs.length : Nat) : Int)).toArray.toList.drop (8 + h + (c.map cell).length)).toArray) g (stL (Spec.wordsOf cs) (Spec.restOf cs ++ c ++ T'.drop m) (h : Nat) ((bs.length + xs.length : Nat) : Int)) 76 := by
        have h1 := stL_copy (Spec.wordsOf cs) (Spec.restOf cs) T' c (cs.length % 64 : Nat) ((bs.length + xs.length : Nat) : Int) (by have := HTL.out; have := HH.out; omega)
        rw [HRL.out, ← HH.out] at h1
        simp only [List.length_map, ← HH.out]
        rw [h1, hm]
        exact Row.setRow (show Row wr.drew g _ 76 from HR'.out)
      refine wpList_world (fun w2 => Only w g w2 ∧ Row w2 g (stL (Spec.wordsOf cs) (Spec.restOf cs ++ c ++ T'.drop m) (h : Nat) ((bs.length + xs.length : Nat) : Int)) 76 ∧ Bs w2 (some ad) n' (xs.drop k)) ⟨(HO.out.drew).setRow _, hrow, HB.out.only ((Only.refl wr g).drew.setRow _) (fun a ha _ => by cases ha; exact HAD.out)⟩ ?_
      rintro w2 ⟨hO2, hR2, hB2⟩
      rw [List.length_map, ← hm]
      have hl2 : (Spec.restOf cs ++ c ++ T'.drop m).length = 64 := by rw [List.length_append, List.length_append, List.length_drop, HRL.out, HTL.out, ← hm]; have := HH.out; omega
      have ch2 := hR2.cell (stL_held _ _ _ _ hl2)
      have cf2 := hR2.free 72
      have HO2 := Aside0.mk hO2
      have HR2 := Aside0.mk hR2
      have HB2 := Aside0.mk hB2
      have HL2 := Aside0.mk hl2
      have HC2 := Aside0.mk hc
      have HM := Aside0.mk hm
      have hm0 : 0 < m := by omega
      have hmn' : m ≤ n' := by omega
      have hm64 : h + m ≤ 64 := by omega
      have hone : m = n' ∨ h + m = 64 := by omega
      have HN2 := Aside0.mk (show n' = (xs.drop k).length by rw [List.length_drop]; exact HN.out)
      have hbd := Bs.drop (c := c') (HN2.out ▸ HB2.out) m (by rw [← HN2.out]; exact hmn') (by rw [← HN2.out]; exact hc')
      have hxk : xs.take (k + m) = xs.take k ++ c := by
        have e : c = (xs.drop k).take m := by rw [HC2.out, List.take_eq_take_iff, List.length_drop]; have := HN.out; omega
        rw [List.take_add, ← e]
      have hbk : bs ++ xs.take (k + m) = cs ++ c := by rw [hxk, HCS.out, List.append_assoc]
      have hdk : (xs.drop k).drop m = xs.drop (k + m) := by rw [List.drop_drop]
      rw [hdk] at hbd
      have HBD := Aside0.mk hbd
      have HBK := Aside0.mk hbk
      have hkm : k + m ≤ xs.length := by have := HN.out; omega
      have HNN := Aside0.mk (show n' - m = xs.length - (k + m) by have := HN.out; omega)
      clear hO2 hR2 hB2 hl2 hrow cf ch hc hm hmn hbd hxk hbk hdk
      by_cases hfull : h + m = 64
      · have hT0 : T'.drop m = [] := List.drop_of_length_le (by have := HTL.out; have := HH.out; omega)
        have hL3 : (Spec.restOf cs ++ c).length = 64 := by have := HL2.out; rwa [hT0, List.append_nil] at this
        have hR3 := HR2.out.set 72 (.int .i64 ((h : Int) + m))
        rw [stL_setHeld _ _ _ _ _ HL2.out, hT0, List.append_nil] at hR3
        have hO3 := HO2.out.set 72 (.int .i64 ((h : Int) + m))
        have hfi : (h : Int) + m = 64 := by omega
        rw [hfi] at hR3 hO3
        have HR3 := Aside0.mk hR3
        have HO3 := Aside0.mk hO3
        have HL3 := Aside0.mk hL3
        clear hR3 hO3 hT0 hL3
        by_cases hcm : c' = m
        · have hnm : n' - m = 0 := by omega
          go_wp2_with fail
          refine (block_calls _ g (Spec.wordsOf cs) (Spec.restOf cs ++ c) 64 ((bs.length + xs.length : Nat) : Int) HL3.out (HK.out.only HO3.out H4.out) HR3.out).mono ?_
          rintro e w4 ⟨rfl, hO4, hR4⟩
          have ch4 := hR4.cell (stL_held _ _ _ _ HL3.out)
          have cf4 := hR4.free 72
          have HO4 := Aside0.mk hO4
          have HR4 := Aside0.mk hR4
          clear hO4 hR4
          go_wp2
          refine ⟨⟨k + m, some ad, 0, n' - m, hkm, HNN.out, by rw [hnm], by omega, ?_, fun a ha hp => by omega, (HO3.out.trans HO4.out).set 72 _, ?_⟩, by simp [sliceLen]; omega⟩
          · have h1 := HBD.out
            rw [if_pos hcm, List.length_drop, ← HNN.out] at h1
            exact (h1.only ((Only.refl w2 g).set 72 _) (fun a ha hp => by omega)).only (HO4.out.set 72 _) (fun a ha hp => by omega)
          · rw [HBK.out]
            refine St.of_full HH.out HM.out hfull HL3.out ?_
            have := HR4.out.set 72 (.int .i64 0)
            rwa [stL_setHeld _ _ _ _ _ HL3.out] at this
        · go_wp2_with fail
          refine (block_calls _ g (Spec.wordsOf cs) (Spec.restOf cs ++ c) 64 ((bs.length + xs.length : Nat) : Int) HL3.out (HK.out.only HO3.out H4.out) HR3.out).mono ?_
          rintro e w4 ⟨rfl, hO4, hR4⟩
          have ch4 := hR4.cell (stL_held _ _ _ _ HL3.out)
          have cf4 := hR4.free 72
          have HO4 := Aside0.mk hO4
          have HR4 := Aside0.mk hR4
          clear hO4 hR4
          go_wp2
          have hbk : ∀ a, some (ad.add m) = some a → 0 < n' - m → a.block ≠ g := fun a ha _ => by cases ha; rw [add_block]; exact HAD.out
          refine ⟨⟨k + m, _, _, _, hkm, HNN.out, rfl, by omega, ?_, hbk, (HO3.out.trans HO4.out).set 72 _, ?_⟩, by simp [sliceLen]; omega⟩
          · have h1 := HBD.out
            rw [if_neg hcm, List.length_drop, ← HNN.out] at h1
            exact (Bs.only h1 ((Only.refl w2 g).set 72 _) hbk).only (HO4.out.set 72 _) hbk
          · rw [HBK.out]
            refine St.of_full HH.out HM.out hfull HL3.out ?_
            have := HR4.out.set 72 (.int .i64 0)
            rwa [stL_setHeld _ _ _ _ _ HL3.out] at this
      · have hfi : ¬ ((h : Int) + m = 64) := by omega
        have hR3 := HR2.out.set 72 (.int .i64 ((h : Int) + m))
        rw [stL_setHeld _ _ _ _ _ HL2.out] at hR3
        have HR3 := Aside0.mk hR3
        clear hR3
        by_cases hcm : c' = m
        · have hnm : n' - m = 0 := by omega
          go_wp2_with fail
          refine ⟨⟨k + m, some ad, 0, n' - m, hkm, HNN.out, by rw [hnm], by omega, ?_, fun a ha hp => by omega, HO2.out.set 72 _, ?_⟩, by simp [sliceLen]; omega⟩
          · have h1 := HBD.out
            rw [if_pos hcm, List.length_drop, ← HNN.out] at h1
            exact h1.only ((Only.refl w2 g).set 72 _) (fun a ha hp => by omega)
          · rw [HBK.out]
            exact St.of_short HH.out HM.out (by omega) rfl HL2.out HR3.out
        · go_wp2_with fail
          have hbk : ∀ a, some (ad.add m) = some a → 0 < n' - m → a.block ≠ g := fun a ha _ => by cases ha; rw [add_block]; exact HAD.out
          refine ⟨⟨k + m, _, _, _, hkm, HNN.out, rfl, by omega, ?_, hbk, HO2.out.set 72 _, ?_⟩, by simp [sliceLen]; omega⟩
          · have h1 := HBD.out
            rw [if_neg hcm, List.length_drop, ← HNN.out] at h1
            exact Bs.only h1 ((Only.refl w2 g).set 72 _) hbk
          · rw [HBK.out]
            exact St.of_short HH.out HM.out (by omega) rfl HL2.out HR3.out
end Go.Proofs.YtnkhhnfmijljbaaDoor
set_option linter.unusedVariables false
set_option linter.unusedSimpArgs false
namespace Go.Proofs.YtnkhhnfmijljbaaDoor
open Go.RowKit Go.Proofs.YtnkhhnfmijljbaaDoorW.PrintWords Go.Proofs.YtnkhhnfmijljbaaDoorW.PrintLast Go.Proofs.YtnkhhnfmijljbaaDoorW.PrintMore
open Extern.Stop (cell)

/-- the state at first lies where the program keeps it -/
def FTab (w : World) : Prop := 2 < w.heap.size ∧ w.rangeAt 2 0 (Spec.first.list.map u)
theorem FTab.below {w w' : World} {B : Nat} (hK : FTab w) (hb : Below B w w') (hB : 2 < B) : FTab w' :=
  ⟨Nat.lt_of_lt_of_le hK.1 hb.size, fun j v hv => by rw [cell_block (a := ⟨2, 0 + j, none⟩) (hb.block 2 hB)]; exact hK.2 j v hv⟩

theorem zero76 (w : World) : (zeroValue 76).run Tryd.prog w = .ok (.agg (#[.int .u32 0, .int .u32 0, .int .u32 0, .int .u32 0, .int .u32 0, .int .u32 0, .int .u32 0, .int .u32 0, .int .u8 0, .int .u8 0, .int .u8 0, .int .u8 0, .int .u8 0, .int .u8 0, .int .u8 0, .int .u8 0, .int .u8 0, .int .u8 0, .int .u8 0, .int .u8 0, .int .u8 0, .int .u8 0, .int .u8 0, .int .u8 0, .int .u8 0, .int .u8 0, .int .u8 0, .int .u8 0, .int .u8 0, .int .u8 0, .int .u8 0, .int .u8 0, .int .u8 0, .int .u8 0, .int .u8 0, .int .u8 0, .int .u8 0, .int .u8 0, .int .u8 0, .int .u8 0, .int .u8 0, .int .u8 0, .int .u8 0, .int .u8 0, .int .u8 0, .int .u8 0, .int .u8 0, .int .u8 0, .int .u8 0, .int .u8 0, .int .u8 0, .int .u8 0, .int .u8 0, .int .u8 0, .int .u8 0, .int .u8 0, .int .u8 0, .int .u8 0, .int .u8 0, .int .u8 0, .int .u8 0, .int .u8 0, .int .u8 0, .int .u8 0, .int .u8 0, .int .u8 0, .int .u8 0, .int .u8 0, .int .u8 0, .int .u8 0, .int .u8 0, .int .u8 0, .int .i64 0, .int .i64 0] : Array Value)) w := by kernel_rfl
def firstL : List Value := [.int .u32 1779033703, .int .u32 3144134277, .int .u32 1013904242, .int .u32 2773480762, .int .u32 1359893119, .int .u32 2600822924, .int .u32 528734635, .int .u32 1541459225]
theorem firstL_eq : Spec.first.list.map u = firstL := by rfl
theorem stSize (V : Spec.V) (rest : List UInt8) (held tk : Int) (h : rest.length = 64) : (Tryd.prog.info? 76).map (·.size) = some (stL V rest held tk).toArray.size := by
  rw [List.size_toArray, stL_length, h]; kernel_rfl
theorem stOne (V : Spec.V) (rest : List UInt8) (held tk : Int) : (stL V rest held tk).toArray.all (·.oneCell') = true := all_oneCell_toArray (fun x hx => by
  simp only [stL, List.mem_append, List.mem_map, List.mem_cons, List.not_mem_nil, or_false] at hx
  rcases hx with ⟨y, _, rfl⟩ | ⟨y, _, rfl⟩ | rfl | rfl <;> rfl)
theorem alloc_setRow (w : World) (o : Array Value) (L : List Value) (t : TypeId) : Row ((w.alloc (.cells o t)).setRow w.heap.size L.toArray) w.heap.size L t := setRow_heap _ _ _ _ _ _ (heap_alloc_new _ _)
theorem below_alloc_setRow (w : World) (o : Obj) (cs : Array Value) : Below w.heap.size w ((w.alloc o).setRow w.heap.size cs) := Below.setRow (Below.alloc (Below.refl _ _) (Nat.le_refl _) _) (Nat.le_refl _) _

theorem newL : stL (Spec.wordsOf []) (Spec.restOf [] ++ List.replicate 64 0) ((([] : List UInt8).length % 64 : Nat) : Int) 0 = [.int .u32 1779033703, .int .u32 3144134277, .int .u32 1013904242, .int .u32 2773480762, .int .u32 1359893119, .int .u32 2600822924, .int .u32 528734635, .int .u32 1541459225, .int .u8 0, .int .u8 0, .int .u8 0, .int .u8 0, .int .u8 0, .int .u8 0, .int .u8 0, .int .u8 0, .int .u8 0, .int .u8 0, .int .u8 0, .int .u8 0, .int .u8 0, .int .u8 0, .int .u8 0, .int .u8 0, .int .u8 0, .int .u8 0, .int .u8 0, .int .u8 0, .int .u8 0, .int .u8 0, .int .u8 0, .int .u8 0, .int .u8 0, .int .u8 0, .int .u8 0, .int .u8 0, .int .u8 0, .int .u8 0, .int .u8 0, .int .u8 0, .int .u8 0, .int .u8 0, .int .u8 0, .int .u8 0, .int .u8 0, .int .u8 0, .int .u8 0, .int .u8 0, .int .u8 0, .int .u8 0, .int .u8 0, .int .u8 0, .int .u8 0, .int .u8 0, .int .u8 0, .int .u8 0, .int .u8 0, .int .u8 0, .int .u8 0, .int .u8 0, .int .u8 0, .int .u8 0, .int .u8 0, .int .u8 0, .int .u8 0, .int .u8 0, .int .u8 0, .int .u8 0, .int .u8 0, .int .u8 0, .int .u8 0, .int .u8 0, .int .i64 0, .int .i64 0] := by kernel_rfl
set_option maxHeartbeats 1000000 in
set_option maxRecDepth 100000 in
theorem new_calls (w : World) (hF : FTab w) : Calls Tryd.prog 18 #[] w (fun e w' => e = .returned (.pointer (some ⟨w.heap.size, 0, none⟩)) ∧ Below w.heap.size w w' ∧ w'.heap.size = w.heap.size + 1 ∧ St w' w.heap.size [] 0) := by
  have HF := Aside0.mk hF.2
  have hz := zero76
  rw [firstL_eq] at HF
  clear hF
  go_enter Tryd.func18, Tryd.ntmps18
  go_wp2_with (with_reducible refine gate_dst (N := 1) rfl ?_; refine wpList_load_mid rfl 71 _ rfl 2 0 rfl firstL _ HF.out Tryd.underlying71 rfl (by kernel_rfl) ?_; unfold firstL)
  go_ret
  exact ⟨rfl, Below.alloc (Below.refl _ _) (Nat.le_refl _) _, by simp, List.replicate 64 0, rfl, by rw [newL]; exact Row.alloc w _ 76⟩

theorem len_calls (w : World) (g : Nat) (bs : List UInt8) (tk : Int) (hS : St w g bs tk) : Calls Tryd.prog 22 #[.pointer (some ⟨g, 0, none⟩)] w (fun e w' => e = .returned (.int .i64 tk) ∧ w' = w) := by
  obtain ⟨T, hT, hR⟩ := hS
  have ct := hR.cell (stL_taken _ _ _ _ hT)
  clear hR
  go_enter Tryd.func22, Tryd.ntmps22
  go_wp2
  go_ret
  exact ⟨rfl, rfl⟩
theorem len_none (w : World) : Calls Tryd.prog 22 #[.pointer none] w (fun e w' => e = .returned (.int .i64 0) ∧ w' = w) := by
  go_enter Tryd.func22, Tryd.ntmps22
  go_wp2
  go_ret
  exact ⟨rfl, rfl⟩
theorem copy_none (w : World) : Calls Tryd.prog 24 #[.pointer none] w (fun e w' => e = .returned (.pointer none) ∧ w' = w) := by
  go_enter Tryd.func24, Tryd.ntmps24
  go_wp2
  go_ret
  exact ⟨rfl, rfl⟩
theorem write_none (w : World) (A : Option Addr) (n c : Nat) : Calls Tryd.prog 20 #[.pointer none, .slice A n c] w (fun e w' => e = .returned (.tuple #[]) ∧ w' = w) := by
  go_enter Tryd.func20, Tryd.ntmps20
  go_wp2
  (try simp only [Exit.inBlock, Exit.then])
  refine bodyPost_ret (results_none rfl _ _ _) rfl ?_
  exact ⟨rfl, rfl⟩
set_option maxHeartbeats 1000000 in
set_option maxRecDepth 100000 in
theorem copy_calls (w : World) (g : Nat) (bs : List UInt8) (tk : Int) (hS : St w g bs tk) : Calls Tryd.prog 24 #[.pointer (some ⟨g, 0, none⟩)] w (fun e w' => e = .returned (.pointer (some ⟨w.heap.size, 0, none⟩)) ∧ Below w.heap.size w w' ∧ w'.heap.size = w.heap.size + 1 ∧ St w' w.heap.size bs tk) := by
  obtain ⟨T, hT, hR⟩ := hS
  have HT := Aside0.mk hT
  have HR := Aside0.mk hR
  have hz := zero76
  clear hR hT
  go_enter Tryd.func24, Tryd.ntmps24
  go_wp2_with (with_reducible refine gate_dst (N := 8) rfl ?_; refine Aside0.out ?_)
  refine Aside0.mk ?_
  refine wpList_load_row rfl 76 _ rfl g rfl 76 (stL (Spec.wordsOf bs) (Spec.restOf bs ++ T) ((bs.length % 64 : Nat) : Int) tk).toArray (0, 0) _ HR.out Tryd.underlying76 rfl (stSize _ _ _ _ HT.out) ?_
  go_wp2_with (with_reducible change wpList _ _ _ (Oper.mk _ (Op.store 76 _ _) _ _ _ _ :: _) _ _; refine Aside0.out ?_)
  refine Aside0.mk ?_
  refine wpList_store_row rfl 76 _ _ rfl w.heap.size (stL (Spec.wordsOf bs) (Spec.restOf bs ++ T) ((bs.length % 64 : Nat) : Int) tk).toArray rfl (by simp [go_sem]) 76 _ (heap_alloc_new _ _) (stSize _ _ _ _ HT.out) (by simp only [List.size_toArray, stL_length, HT.out]; rfl) (stOne _ _ _ _) ?_
  go_wp2
  go_ret
  exact ⟨rfl, below_alloc_setRow _ _ _, by simp, T, HT.out, alloc_setRow _ _ _ _⟩
end Go.Proofs.YtnkhhnfmijljbaaDoor
set_option linter.unusedVariables false
set_option linter.unusedSimpArgs false
namespace Go.Proofs.YtnkhhnfmijljbaaDoor
open Go.RowKit Go.Proofs.YtnkhhnfmijljbaaDoorW.PrintWords Go.Proofs.YtnkhhnfmijljbaaDoorW.PrintLast Go.Proofs.YtnkhhnfmijljbaaDoorW.PrintMore
open Extern.Stop (cell)

theorem below_only {a w w' : World} {B g : Nat} (h : Below B a w) (hO : Only w g w') (hg : B ≤ g) (hs : B ≤ w.heap.size) : Below B a w' :=
  ⟨hO.os.trans h.os, hO.tape.trans h.tape, hO.output.trans h.output, Nat.le_trans h.size hO.size, fun k hk => (hO.block k (by omega) (by omega)).trans (h.block k hk)⟩
/-- a whole block of bytes, as a slice of it -/
theorem Bs.of_row {w : World} {b : Nat} {xs : List UInt8} {t : TypeId} (h : Row w b (xs.map Extern.Stop.cell) t) (hl : xs.length ≤ 9223372036854775807) : Bs w (some ⟨b, 0, none⟩) xs.length xs := by
  refine Kd.C_of_reads (h1 := fun _ => rfl) (d := (0 : Int)) ⟨ints_length xs, hl, fun hn => ⟨_, rfl, fun j hj => ?_⟩⟩
  have := h.cell (k := j) (v := .int .u8 ((ints xs).getD j 0)) (by simp [ints, List.getD, hj, Extern.Stop.cell, n8])
  rw [show (⟨b, 0, none⟩ : Addr).add j = ⟨b, j, none⟩ by unfold Addr.add; split <;> simp_all]
  exact this
theorem n32_byte (x : UInt32) : n32 x % (256 : Int) = n8 x.toUInt8 := by
  have := x.toNat_lt
  unfold n32 n8
  rw [UInt32.toNat_toUInt8]; omega
theorem u32_shr24 (x : UInt32) : n32 x / (16777216 : Int) = n32 (x >>> 24) := u32_shr x 24 (by omega)
theorem u32_shr16 (x : UInt32) : n32 x / (65536 : Int) = n32 (x >>> 16) := u32_shr x 16 (by omega)
theorem u32_shr8 (x : UInt32) : n32 x / (256 : Int) = n32 (x >>> 8) := u32_shr x 8 (by omega)
/-- the hash's cells when i words are out -/
def hashL (v : Spec.V) (i : Nat) : List Value := (v.bytes.take (4 * i)).map cell ++ List.replicate (32 - 4 * i) (.int .u8 0)
theorem hashL_set (v : Spec.V) (i : Nat) (h : i < 8) (x : UInt32) (hx : x = v.list.getD i 0) :
    ((((hashL v i).set (4 * i) (.int .u8 (n8 (x >>> 24).toUInt8))).set (4 * i + 1) (.int .u8 (n8 (x >>> 16).toUInt8))).set (4 * i + 2) (.int .u8 (n8 (x >>> 8).toUInt8))).set (4 * i + 3) (.int .u8 (n8 x.toUInt8)) = hashL v (i + 1) := by
  subst hx
  match i, h with
  | 0, _ | 1, _ | 2, _ | 3, _ | 4, _ | 5, _ | 6, _ | 7, _ => rfl
theorem hashL_length (v : Spec.V) (i : Nat) (h : i ≤ 8) : (hashL v i).length = 32 := by
  have hb : v.bytes.length = 32 := rfl
  simp [hashL, hb]; omega
theorem hashL_some (v : Spec.V) (i k : Nat) (h : i ≤ 8) (hk : k < 32) : ∃ y, (hashL v i)[k]? = some y := ⟨_, List.getElem?_eq_getElem (by rw [hashL_length v i h]; exact hk)⟩
theorem hashL_8 (v : Spec.V) : hashL v 8 = v.bytes.map cell := by rfl
/-- the length's cells when i bytes are out -/
def sizeL (n : Nat) (i : Nat) : List Value := ((Spec.be64 n).take i).map cell ++ List.replicate (8 - i) (.int .u8 0)
theorem sizeL_set (n i : Nat) (h : i < 8) : (sizeL n i).set i (.int .u8 (n8 (UInt8.ofNat (n >>> (56 - 8 * i))))) = sizeL n (i + 1) := by
  match i, h with
  | 0, _ | 1, _ | 2, _ | 3, _ | 4, _ | 5, _ | 6, _ | 7, _ => rfl
theorem sizeL_8 (n : Nat) : sizeL n 8 = (Spec.be64 n).map cell := by rfl
theorem sizeL_length (n i : Nat) (h : i ≤ 8) : (sizeL n i).length = 8 := by
  have hb : (Spec.be64 n).length = 8 := rfl
  simp [sizeL, hb]; omega
theorem byteOf (n s : Nat) : (n : Int) / 2 ^ s % (256 : Int) = n8 (UInt8.ofNat (n >>> s)) := by
  unfold n8
  rw [UInt8.toNat_ofNat', Nat.shiftRight_eq_div_pow, Int.natCast_emod, Int.natCast_ediv, Int.natCast_pow]
  rfl
/-- an element of an array of one-cell elements, by value -/
theorem run_index_row {P : Program} (t e : TypeId) (n : Nat) (d : TypeDesc) (ht : P.underlying t = some (.array n e)) (he : P.underlying e = some d) (hd : d.isRow = false) (hsz : ∀ w, (sizeOf e).run P w = .ok 1 w)
    (cs : Array Value) (i : Nat) (v : Value) (hi : i < n) (hv : cs[i]? = some v) (w : World) : (Instr.index t (.agg cs) (.int .i64 i)).run P w = .ok v w := by
  have hag : ∀ w, (isAgg e).run P w = .ok false w := fun w => by
    unfold isAgg
    rw [Sem.run_bind, run_underlying he w]
    cases d <;> simp_all
  simp [Instr.index, asIntOf, Sem.run_bind, run_underlying ht, hi, Go.part, hag, hsz, hv]
/-- how many bytes a state at g says it took -/
def takenAt (w : World) (g : Nat) : Nat := match w.cell? ⟨g, 73, none⟩ with
  | some (.int _ n) => n.toNat
  | _ => 0
theorem St.takenAt {w : World} {g : Nat} {bs : List UInt8} {tk : Int} (h : St w g bs tk) : takenAt w g = tk.toNat := by
  obtain ⟨T, hT, hR⟩ := h
  unfold YtnkhhnfmijljbaaDoor.takenAt
  rw [hR.cell (stL_taken _ _ _ _ hT)]
end Go.Proofs.YtnkhhnfmijljbaaDoor
