/- (*sha.State).Sum: words for its walk. -/
import Derived.Test.YtnkhhnfmijljbaaDoorNew
set_option linter.unusedVariables false
set_option linter.unusedSimpArgs false
namespace Go.Proofs.YtnkhhnfmijljbaaDoor
open Go.RowKit Go.Proofs.YtnkhhnfmijljbaaDoorW.PrintWords Go.Proofs.YtnkhhnfmijljbaaDoorW.PrintLast Go.Proofs.YtnkhhnfmijljbaaDoorW.PrintMore
open Extern.Stop (cell)

theorem below_only {a w w' : World} {B g : Nat} (h : Below B a w) (hO : Only w g w') (hg : B ≤ g) (hs : B ≤ w.heap.size) : Below B a w' :=
  ⟨hO.os.trans h.os, hO.tape.trans h.tape, hO.output.trans h.output, Nat.le_trans h.size hO.size, fun k hk => (hO.block k (by omega) (by omega)).trans (h.block k hk)⟩
/-- a whole block of bytes, as a slice of it -/
theorem Bs.of_row {w : World} {b : Nat} {xs : List UInt8} {t : TypeId} (h : Row w b (xs.map Extern.Stop.cell) t) (hl : xs.length ≤ 9223372036854775807) : Bs w (some ⟨b, 0, none⟩) xs.length xs := by
  refine Kd.C_of_reads (h1 := fun _ => rfl) (d := (0 : Int)) ⟨ints_length xs, hl, fun hn => ⟨_, rfl, fun j hj => ?_⟩⟩
  have := h.cell (k := j) (v := .int .u8 ((ints xs).getD j 0)) (by simp [ints, List.getD, hj, Extern.Stop.cell, n8])
  rw [show (⟨b, 0, none⟩ : Addr).add j = ⟨b, j, none⟩ by unfold Addr.add; split <;> simp_all]
  exact this
theorem n32_byte (x : UInt32) : n32 x % (256 : Int) = n8 x.toUInt8 := by
  have := x.toNat_lt
  unfold n32 n8
  rw [UInt32.toNat_toUInt8]; omega
theorem u32_shr24 (x : UInt32) : n32 x / (16777216 : Int) = n32 (x >>> 24) := u32_shr x 24 (by omega)
theorem u32_shr16 (x : UInt32) : n32 x / (65536 : Int) = n32 (x >>> 16) := u32_shr x 16 (by omega)
theorem u32_shr8 (x : UInt32) : n32 x / (256 : Int) = n32 (x >>> 8) := u32_shr x 8 (by omega)
/-- the hash's cells when i words are out -/
def hashL (v : Spec.V) (i : Nat) : List Value := (v.bytes.take (4 * i)).map cell ++ List.replicate (32 - 4 * i) (.int .u8 0)
theorem hashL_set (v : Spec.V) (i : Nat) (h : i < 8) (x : UInt32) (hx : x = v.list.getD i 0) :
    ((((hashL v i).set (4 * i) (.int .u8 (n8 (x >>> 24).toUInt8))).set (4 * i + 1) (.int .u8 (n8 (x >>> 16).toUInt8))).set (4 * i + 2) (.int .u8 (n8 (x >>> 8).toUInt8))).set (4 * i + 3) (.int .u8 (n8 x.toUInt8)) = hashL v (i + 1) := by
  subst hx
  match i, h with
  | 0, _ | 1, _ | 2, _ | 3, _ | 4, _ | 5, _ | 6, _ | 7, _ => rfl
theorem hashL_length (v : Spec.V) (i : Nat) (h : i ≤ 8) : (hashL v i).length = 32 := by
  have hb : v.bytes.length = 32 := rfl
  simp [hashL, hb]; omega
theorem hashL_some (v : Spec.V) (i k : Nat) (h : i ≤ 8) (hk : k < 32) : ∃ y, (hashL v i)[k]? = some y := ⟨_, List.getElem?_eq_getElem (by rw [hashL_length v i h]; exact hk)⟩
theorem hashL_8 (v : Spec.V) : hashL v 8 = v.bytes.map cell := by rfl
/-- the length's cells when i bytes are out -/
def sizeL (n : Nat) (i : Nat) : List Value := ((Spec.be64 n).take i).map cell ++ List.replicate (8 - i) (.int .u8 0)
theorem sizeL_set (n i : Nat) (h : i < 8) : (sizeL n i).set i (.int .u8 (n8 (UInt8.ofNat (n >>> (56 - 8 * i))))) = sizeL n (i + 1) := by
  match i, h with
  | 0, _ | 1, _ | 2, _ | 3, _ | 4, _ | 5, _ | 6, _ | 7, _ => rfl
theorem sizeL_8 (n : Nat) : sizeL n 8 = (Spec.be64 n).map cell := by rfl
theorem sizeL_length (n i : Nat) (h : i ≤ 8) : (sizeL n i).length = 8 := by
  have hb : (Spec.be64 n).length = 8 := rfl
  simp [sizeL, hb]; omega
theorem byteOf (n s : Nat) : (n : Int) / 2 ^ s % (256 : Int) = n8 (UInt8.ofNat (n >>> s)) := by
  unfold n8
  rw [UInt8.toNat_ofNat', Nat.shiftRight_eq_div_pow, Int.natCast_emod, Int.natCast_ediv, Int.natCast_pow]
  rfl
/-- an element of an array of one-cell elements, by value -/
theorem run_index_row {P : Program} (t e : TypeId) (n : Nat) (d : TypeDesc) (ht : P.underlying t = some (.array n e)) (he : P.underlying e = some d) (hd : d.isRow = false) (hsz : ∀ w, (sizeOf e).run P w = .ok 1 w)
    (cs : Array Value) (i : Nat) (v : Value) (hi : i < n) (hv : cs[i]? = some v) (w : World) : (Instr.index t (.agg cs) (.int .i64 i)).run P w = .ok v w := by
  have hag : ∀ w, (isAgg e).run P w = .ok false w := fun w => by
    unfold isAgg
    rw [Sem.run_bind, run_underlying he w]
    cases d <;> simp_all
  simp [Instr.index, asIntOf, Sem.run_bind, run_underlying ht, hi, Go.part, hag, hsz, hv]
/-- how many bytes a state at g says it took -/
def takenAt (w : World) (g : Nat) : Nat := match w.cell? ⟨g, 73, none⟩ with
  | some (.int _ n) => n.toNat
  | _ => 0
theorem St.takenAt {w : World} {g : Nat} {bs : List UInt8} {tk : Int} (h : St w g bs tk) : takenAt w g = tk.toNat := by
  obtain ⟨T, hT, hR⟩ := h
  unfold YtnkhhnfmijljbaaDoor.takenAt
  rw [hR.cell (stL_taken _ _ _ _ hT)]
end Go.Proofs.YtnkhhnfmijljbaaDoor
