/- (*sha.State).Write: the state behind it has taken the bytes. -/
import Derived.Test.YtnkhhnfmijljbaaDoorBlk
import Derived.Laws.CopyRow
import Derived.Lib.SlBuf
set_option linter.unusedVariables false
set_option linter.unusedSimpArgs false
namespace Go.Proofs.YtnkhhnfmijljbaaDoor
open Go.RowKit Go.Proofs.YtnkhhnfmijljbaaDoorW.PrintWords Go.Proofs.YtnkhhnfmijljbaaDoorW.PrintLast Go.Proofs.YtnkhhnfmijljbaaDoorW.PrintMore
open Extern.Stop (cell)

/-- bytes' numbers -/
def ints (xs : List UInt8) : List Int := xs.map n8
theorem ints_length (xs : List UInt8) : (ints xs).length = xs.length := by simp [ints]
/-- the slice (A, n) holds the bytes xs -/
def Bs (w : World) (A : Option Addr) (n : Nat) (xs : List UInt8) : Prop := Kd.C (Kd.int .u8) w A n (ints xs)
section
variable {w w' : World} {A : Option Addr} {n : Nat} {xs : List UInt8}
theorem Bs.len (h : Bs w A n xs) : n = xs.length := by have := Kd.C_len h; rw [ints_length] at this; exact this.symm
theorem Bs.max (h : Bs w A n xs) : n ≤ 9223372036854775807 := Kd.C_max h
theorem Bs.below (h : Bs w A n xs) (hb : Below w.heap.size w w') : Bs w' A n xs := Kd.C_below h hb
theorem Bs.cells (h : Bs w A n xs) (hn : 0 < n) : ∃ ad, A = some ad ∧ ∀ j v, (xs.map cell)[j]? = some v → w.cell? (ad.add j) = some v := by
  have hl := h.len
  have hR : ReadsOf (Value.int .u8) (0 : Int) w A n (ints xs) := Kd.reads_of_C (h1 := fun _ => rfl) h
  obtain ⟨ad, e, hc⟩ := hR.2.2 hn
  refine ⟨ad, e, fun j v hv => ?_⟩
  obtain ⟨hj, hv'⟩ := List.getElem?_eq_some_iff.1 hv
  rw [List.length_map] at hj
  rw [hc j (by omega), ← hv']
  simp [ints, List.getD, hj, cell, n8]
theorem Bs.cell (h : Bs w A n xs) (i : Nat) (hi : i < n) : ∃ ad, A = some ad ∧ w.cell? (ad.add i) = some (.int .u8 (n8 (xs.getD i 0))) := by
  have hl := h.len
  obtain ⟨ad, e, hc⟩ := h.cells (by omega)
  refine ⟨ad, e, hc i _ ?_⟩
  have hi' : i < xs.length := by omega
  simp [hi', List.getD, Extern.Stop.cell, n8]
theorem Bs.only {g : Nat} (h : Bs w A n xs) (hO : Only w g w') (hne : ∀ ad, A = some ad → 0 < n → ad.block ≠ g) : Bs w' A n xs :=
  Kd.C_keep (0 : Int) (h1 := fun _ => rfl) h ⟨hO.size, fun i hi hg _ => hO.block i hi hg⟩ hne
theorem Bs.drop {c : Nat} (h : Bs w A xs.length xs) (m : Nat) (hm : m ≤ xs.length) (hc : xs.length ≤ c) : Bs w (if c = m then A else A.map (·.add m)) (xs.drop m).length (xs.drop m) := by
  have h' : Kd.C (Kd.int .u8) w A (ints xs).length (ints xs) := by rw [ints_length]; exact h
  have := Kd.C_drop (m := m) (c := c) h' (by rw [ints_length]; exact hm) (by rw [ints_length]; exact hc)
  have e : (ints xs).drop m = ints (xs.drop m) := by simp [ints]
  rw [e, ints_length] at this
  simpa [Kd.int, Kd.scalar, Bs] using this
theorem Bs.take (h : Bs w A xs.length xs) (m : Nat) (hm : m ≤ xs.length) : Bs w A (xs.take m).length (xs.take m) := by
  have h' : Kd.C (Kd.int .u8) w A (ints xs).length (ints xs) := by rw [ints_length]; exact h
  have := Kd.C_take (m := m) h' (by rw [ints_length]; exact hm)
  have e : (ints xs).take m = ints (xs.take m) := by simp [ints]
  rw [e, ints_length] at this
  exact this
end
/-- the state at g has taken the bytes bs, but for its count, which is tk -/
def St (w : World) (g : Nat) (bs : List UInt8) (tk : Int) : Prop :=
  ∃ T, (Spec.restOf bs ++ T).length = 64 ∧ Row w g (stL (Spec.wordsOf bs) (Spec.restOf bs ++ T) ((bs.length % 64 : Nat) : Int) tk) 76
theorem stL_held (v : Spec.V) (rest : List UInt8) (held taken : Int) (h : rest.length = 64) : (stL v rest held taken)[72]? = some (.int .i64 held) := by
  have h8 : (v.list.map u).length = 8 := rfl
  rw [stL, List.getElem?_append_right (by omega), h8, List.getElem?_append_right (by simp [h])]
  simp [h]
theorem stL_taken (v : Spec.V) (rest : List UInt8) (held taken : Int) (h : rest.length = 64) : (stL v rest held taken)[73]? = some (.int .i64 taken) := by
  have h8 : (v.list.map u).length = 8 := rfl
  rw [stL, List.getElem?_append_right (by omega), h8, List.getElem?_append_right (by simp [h])]
  simp [h]
theorem stL_setHeld (v : Spec.V) (rest : List UInt8) (held taken x : Int) (h : rest.length = 64) : (stL v rest held taken).set 72 (.int .i64 x) = stL v rest x taken := by
  have h8 : (v.list.map u).length = 8 := rfl
  rw [stL, List.set_append_right _ _ (by omega), h8, List.set_append_right _ _ (by simp [h])]
  simp [h, stL]
theorem stL_setTaken (v : Spec.V) (rest : List UInt8) (held taken x : Int) (h : rest.length = 64) : (stL v rest held taken).set 73 (.int .i64 x) = stL v rest held x := by
  have h8 : (v.list.map u).length = 8 := rfl
  rw [stL, List.set_append_right _ _ (by omega), h8, List.set_append_right _ _ (by simp [h])]
  simp [h, stL]
theorem stL_length (v : Spec.V) (rest : List UInt8) (held taken : Int) : (stL v rest held taken).length = rest.length + 10 := by
  simp [stL, Spec.V.list]
theorem stL_copy (v : Spec.V) (R T c : List UInt8) (held taken : Int) (hc : c.length ≤ T.length) :
    (stL v (R ++ T) held taken).take (8 + R.length) ++ c.map cell ++ (stL v (R ++ T) held taken).drop (8 + R.length + c.length) = stL v (R ++ c ++ T.drop c.length) held taken := by
  have h8 : (v.list.map u).length = 8 := rfl
  have e1 : (stL v (R ++ T) held taken).take (8 + R.length) = v.list.map u ++ R.map cell := by
    rw [stL, List.take_append, h8, List.take_of_length_le (by omega), show 8 + R.length - 8 = R.length by omega, List.map_append, List.append_assoc, List.take_append_of_le_length (by simp), List.take_of_length_le (by simp)]
  have e2 : (stL v (R ++ T) held taken).drop (8 + R.length + c.length) = (T.drop c.length).map cell ++ [.int .i64 held, .int .i64 taken] := by
    rw [stL, List.drop_append, h8, List.drop_of_length_le (by omega), List.nil_append, show 8 + R.length + c.length - 8 = R.length + c.length by omega, List.drop_append_of_le_length (by simp; omega), ← List.map_drop, List.drop_append, List.drop_of_length_le (by omega), List.nil_append, show R.length + c.length - R.length = c.length by omega]
  rw [e1, e2, stL]
  simp [List.map_append, List.append_assoc]
theorem cell_block {w w' : World} {a : Addr} (h : w'.heap[a.block]? = w.heap[a.block]?) : w'.cell? a = w.cell? a := by simp [World.cell?, h]
theorem KTab.only {w w' : World} {g : Nat} (hK : KTab w) (hO : Only w g w') (hne : 4 ≠ g) : KTab w' :=
  ⟨Nat.lt_of_lt_of_le hK.1 hO.size, fun j v hv => by rw [cell_block (a := ⟨4, 0 + j, none⟩) (hO.block 4 hK.1 hne)]; exact hK.2 j v hv⟩
theorem KTab.below {w w' : World} {B : Nat} (hK : KTab w) (hb : Below B w w') (hB : 4 < B) : KTab w' :=
  ⟨Nat.lt_of_lt_of_le hK.1 hb.size, fun j v hv => by rw [cell_block (a := ⟨4, 0 + j, none⟩) (hb.block 4 hB)]; exact hK.2 j v hv⟩
theorem ne4 {w : World} {g : Nat} {V : Spec.V} {rest : List UInt8} {held tk : Int} (hK : KTab w) (hl : rest.length = 64) (hR : Row w g (stL V rest held tk) 76) : 4 ≠ g := by
  rintro rfl
  have h1 := hR.cell (stL_rest V rest held tk 0 (by omega))
  have h2 := hK.2 8 _ (K_at 8 (by omega))
  rw [Nat.zero_add] at h2
  rw [show 8 + 0 = 8 from rfl, h2] at h1
  cases h1
theorem Only.refl (w : World) (g : Nat) : Only w g w := ⟨rfl, rfl, rfl, Nat.le_refl _, fun _ _ _ => rfl⟩
theorem Only.trans {w w' w'' : World} {g : Nat} (h : Only w g w') (h' : Only w' g w'') : Only w g w'' :=
  ⟨h'.os.trans h.os, h'.tape.trans h.tape, h'.output.trans h.output, Nat.le_trans h.size h'.size, fun k hk hne => (h'.block k (Nat.lt_of_lt_of_le hk h.size) hne).trans (h.block k hk hne)⟩
theorem Only.setRow {w w' : World} {g : Nat} (h : Only w g w') (cs : Array Value) : Only w g (w'.setRow g cs) :=
  ⟨h.os, h.tape, h.output, by simpa using h.size, fun j hj hne => by rw [setRow_heap_other _ _ _ _ hne]; exact h.block j hj hne⟩
theorem Row.setRow {w : World} {b : Nat} {L L' : List Value} {t : TypeId} (h : Row w b L t) : Row (w.setRow b L'.toArray) b L' t := Go.setRow_heap _ _ _ _ _ _ h
theorem wpList_world {P : Program} {ops : Array Oper} {l : List Oper} {Q : Exit → Act → World → Prop} {a : Act} {w : World} (F : World → Prop) (h : F w) (k : ∀ w, F w → wpList P ops Q l a w) : wpList P ops Q l a w := k w h
def sliceLen : Value → Nat
  | .slice _ n _ => n
  | _ => 0
end Go.Proofs.YtnkhhnfmijljbaaDoor
