/- What stands when the world grows: the tables, a state, bytes. -/
import Derived.Test.YtnkhhnfmijljbaaDoorExt
import Derived.Test.YtnkhhnfmijljbaaDoorKnw
import Derived.Test.YtnkhhnfmijljbaaDoorRes
set_option linter.unusedVariables false
set_option linter.unusedSimpArgs false
namespace Go.Proofs.YtnkhhnfmijljbaaDoor
open Go.RowKit Go.Proofs.YtnkhhnfmijljbaaDoorW.PrintWords Go.Proofs.YtnkhhnfmijljbaaDoorW.PrintLast Go.Proofs.YtnkhhnfmijljbaaDoorW.PrintMore
open Extern.Stop (cell)
theorem KTab.ext {w w' : World} (h : KTab w) (hE : Ext w w') : KTab w' := h.below hE h.1
theorem FTab.ext {w w' : World} (h : FTab w) (hE : Ext w w') : FTab w' := h.below hE h.1
theorem LTab.ext {w w' : World} (h : LTab w) (hE : Ext w w') : LTab w' := h.below hE h.lt
theorem Row.ext {w w' : World} {b : Nat} {L : List Value} {t : TypeId} (h : Row w b L t) (hE : Ext w w') : Row w' b L t := h.below hE h.lt
theorem St.ext {w w' : World} {g : Nat} {bs : List UInt8} {tk : Int} (h : St w g bs tk) (hE : Ext w w') : St w' g bs tk := by
  obtain ⟨T, hT, hR⟩ := h
  exact ⟨T, hT, hR.ext hE⟩
theorem St.under {w w' : World} {g B : Nat} {bs : List UInt8} {tk : Int} (h : St w g bs tk) (hb : Below B w w') (hg : g < B) : St w' g bs tk := by
  obtain ⟨T, hT, hR⟩ := h
  exact ⟨T, hT, hR.below hb hg⟩
theorem Bs.ext {w w' : World} {A : Option Addr} {n : Nat} {xs : List UInt8} (h : Bs w A n xs) (hE : Ext w w') : Bs w' A n xs := h.below hE
theorem Bss.ext {w w' : World} {A : Option Addr} {n : Nat} {xs : List (List UInt8)} (h : Bss w A n xs) (hE : Ext w w') : Bss w' A n xs := h.below hE
/-- one slice, built -/
theorem bss_one {w : World} {A : Option Addr} {n c : Nat} {xs : List UInt8} (h : Bs w A n xs) (hc : n ≤ c) : Bss (w.alloc (.cells #[.slice A n c] 24)) (some ⟨w.heap.size, 0, none⟩) 1 [xs] := by
  have hl := h.len
  subst hl
  exact Bss.of_row (t := 24) (ls := [(A, c, xs)]) (Row.alloc w [.slice A xs.length c] 24) (fun l hl => by
    rw [List.mem_singleton] at hl; subst hl
    exact ⟨hc, h.ext ((Ext.refl w).alloc _)⟩) (by simp)
theorem bss_two {w : World} {A A' : Option Addr} {n c n' c' : Nat} {xs ys : List UInt8} (h : Bs w A n xs) (hc : n ≤ c) (h' : Bs w A' n' ys) (hc' : n' ≤ c') : Bss (w.alloc (.cells #[.slice A n c, .slice A' n' c'] 24)) (some ⟨w.heap.size, 0, none⟩) 2 [xs, ys] := by
  have hl := h.len
  subst hl
  have hl' := h'.len
  subst hl'
  exact Bss.of_row (t := 24) (ls := [(A, c, xs), (A', c', ys)]) (Row.alloc w [.slice A xs.length c, .slice A' ys.length c'] 24) (fun l hl => by
    rcases List.mem_cons.1 hl with rfl | hl
    · exact ⟨hc, h.ext ((Ext.refl w).alloc _)⟩
    · rw [List.mem_singleton] at hl; subst hl
      exact ⟨hc', h'.ext ((Ext.refl w).alloc _)⟩) (by simp)
theorem Bs.row {w : World} {b n : Nat} {xs : List UInt8} {t : TypeId} (h : Row w b (xs.map Extern.Stop.cell) t) (hn : n = xs.length) (hl : xs.length ≤ 9223372036854775807) : Bs w (some ⟨b, 0, none⟩) n xs := by
  subst hn
  exact Bs.of_row h hl
theorem addr_add (b i j : Nat) : (⟨b, i, none⟩ : Addr).add j = ⟨b, i + j, none⟩ := by unfold Addr.add; split <;> simp_all
theorem Bs.sub {w : World} {b : Nat} {xs : List UInt8} {t : TypeId} (h : Row w b (xs.map Extern.Stop.cell) t) (i m : Nat) (hi : i + m ≤ xs.length) (hl : xs.length ≤ 9223372036854775807) : Bs w (some ⟨b, i, none⟩) m ((xs.drop i).take m) := by
  have hm : m = ((xs.drop i).take m).length := by simp; omega
  refine Kd.C_of_reads (h1 := fun _ => rfl) (d := (0 : Int)) ⟨by rw [ints_length]; exact hm.symm, by omega, fun hn => ⟨_, rfl, fun j hj => ?_⟩⟩
  have hj' : i + j < xs.length := by omega
  have e1 : ((xs.drop i).take m)[j]? = some xs[i + j] := by rw [List.getElem?_take, if_pos hj, List.getElem?_drop, List.getElem?_eq_getElem hj']
  have e2 : (ints ((xs.drop i).take m)).getD j 0 = n8 xs[i + j] := by rw [ints, List.getD, List.getElem?_map, e1]; rfl
  have := h.cell (k := i + j) (v := .int .u8 ((ints ((xs.drop i).take m)).getD j 0)) (by rw [e2, List.getElem?_map, List.getElem?_eq_getElem hj']; rfl)
  rw [addr_add]
  exact this
/-- a write of a part of a row -/
theorem write_of (w : World) (g : Nat) (bs : List UInt8) (b i m c : Nat) (xs : List UInt8) (t : TypeId) (hK : KTab w) (hS : St w g bs bs.length) (hR : Row w b (xs.map cell) t) (hne : b ≠ g) (hi : i + m ≤ xs.length) (hc : m ≤ c) (hl : xs.length < 4611686018427387904)
    (hlen : bs.length + m < 4611686018427387904) :
    Calls Tryd.prog 20 #[.pointer (some ⟨g, 0, none⟩), .slice (some ⟨b, i, none⟩) m c] w (fun e w' => e = .returned (.tuple #[]) ∧ Only w g w' ∧ St w' g (bs ++ (xs.drop i).take m) (bs ++ (xs.drop i).take m).length) := by
  have hm : ((xs.drop i).take m).length = m := by simp; omega
  have h := write_calls w g bs (some ⟨b, i, none⟩) c ((xs.drop i).take m) hK hS (by rw [hm]; exact Bs.sub hR i m hi (by omega)) (by omega) (fun ad ha _ => by cases ha; exact hne) (by rw [hm]; exact hlen)
  rw [hm] at h
  exact h
/-- sha.Sum of one slice, built here -/
theorem sumOne_calls (w : World) (A : Option Addr) (n c : Nat) (xs : List UInt8) (hK : KTab w) (hF : FTab w) (h : Bs w A n xs) (hc : n ≤ c) (hl : xs.length < 500000000000000000) :
    Calls Tryd.prog 16 #[.slice (some ⟨w.heap.size, 0, none⟩) 1 1] (w.alloc (.cells #[.slice A n c] 24)) (fun e w' => e = .returned (hashV (Spec.digest xs)) ∧ Ext w w') := by
  have hE : Ext w (w.alloc (.cells #[.slice A n c] 24)) := (Ext.refl w).alloc _
  refine (shaSum_calls _ (some ⟨w.heap.size, 0, none⟩) 1 [xs] (hK.ext hE) (hF.ext hE) (bss_one h hc) (by simpa using hl)).mono ?_
  rintro e w' ⟨rfl, h1⟩
  exact ⟨by simp, hE.trans h1⟩
end Go.Proofs.YtnkhhnfmijljbaaDoor
