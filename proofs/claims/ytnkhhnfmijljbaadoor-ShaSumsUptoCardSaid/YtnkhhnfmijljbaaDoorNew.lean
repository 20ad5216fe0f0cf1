/- sha.New, (*sha.State).Len, (*sha.State).Copy; a state that is none. -/
import Derived.Test.YtnkhhnfmijljbaaDoorWrt
set_option linter.unusedVariables false
set_option linter.unusedSimpArgs false
namespace Go.Proofs.YtnkhhnfmijljbaaDoor
open Go.RowKit Go.Proofs.YtnkhhnfmijljbaaDoorW.PrintWords Go.Proofs.YtnkhhnfmijljbaaDoorW.PrintLast Go.Proofs.YtnkhhnfmijljbaaDoorW.PrintMore
open Extern.Stop (cell)

/-- the state at first lies where the program keeps it -/
def FTab (w : World) : Prop := 2 < w.heap.size ∧ w.rangeAt 2 0 (Spec.first.list.map u)
theorem FTab.below {w w' : World} {B : Nat} (hK : FTab w) (hb : Below B w w') (hB : 2 < B) : FTab w' :=
  ⟨Nat.lt_of_lt_of_le hK.1 hb.size, fun j v hv => by rw [cell_block (a := ⟨2, 0 + j, none⟩) (hb.block 2 hB)]; exact hK.2 j v hv⟩

theorem zero76 (w : World) : (zeroValue 76).run Tryd.prog w = .ok (.agg (#[.int .u32 0, .int .u32 0, .int .u32 0, .int .u32 0, .int .u32 0, .int .u32 0, .int .u32 0, .int .u32 0, .int .u8 0, .int .u8 0, .int .u8 0, .int .u8 0, .int .u8 0, .int .u8 0, .int .u8 0, .int .u8 0, .int .u8 0, .int .u8 0, .int .u8 0, .int .u8 0, .int .u8 0, .int .u8 0, .int .u8 0, .int .u8 0, .int .u8 0, .int .u8 0, .int .u8 0, .int .u8 0, .int .u8 0, .int .u8 0, .int .u8 0, .int .u8 0, .int .u8 0, .int .u8 0, .int .u8 0, .int .u8 0, .int .u8 0, .int .u8 0, .int .u8 0, .int .u8 0, .int .u8 0, .int .u8 0, .int .u8 0, .int .u8 0, .int .u8 0, .int .u8 0, .int .u8 0, .int .u8 0, .int .u8 0, .int .u8 0, .int .u8 0, .int .u8 0, .int .u8 0, .int .u8 0, .int .u8 0, .int .u8 0, .int .u8 0, .int .u8 0, .int .u8 0, .int .u8 0, .int .u8 0, .int .u8 0, .int .u8 0, .int .u8 0, .int .u8 0, .int .u8 0, .int .u8 0, .int .u8 0, .int .u8 0, .int .u8 0, .int .u8 0, .int .u8 0, .int .i64 0, .int .i64 0] : Array Value)) w := by kernel_rfl
def firstL : List Value := [.int .u32 1779033703, .int .u32 3144134277, .int .u32 1013904242, .int .u32 2773480762, .int .u32 1359893119, .int .u32 2600822924, .int .u32 528734635, .int .u32 1541459225]
theorem firstL_eq : Spec.first.list.map u = firstL := by rfl
theorem stSize (V : Spec.V) (rest : List UInt8) (held tk : Int) (h : rest.length = 64) : (Tryd.prog.info? 76).map (·.size) = some (stL V rest held tk).toArray.size := by
  rw [List.size_toArray, stL_length, h]; kernel_rfl
theorem stOne (V : Spec.V) (rest : List UInt8) (held tk : Int) : (stL V rest held tk).toArray.all (·.oneCell') = true := all_oneCell_toArray (fun x hx => by
  simp only [stL, List.mem_append, List.mem_map, List.mem_cons, List.not_mem_nil, or_false] at hx
  rcases hx with ⟨y, _, rfl⟩ | ⟨y, _, rfl⟩ | rfl | rfl <;> rfl)
theorem alloc_setRow (w : World) (o : Array Value) (L : List Value) (t : TypeId) : Row ((w.alloc (.cells o t)).setRow w.heap.size L.toArray) w.heap.size L t := setRow_heap _ _ _ _ _ _ (heap_alloc_new _ _)
theorem below_alloc_setRow (w : World) (o : Obj) (cs : Array Value) : Below w.heap.size w ((w.alloc o).setRow w.heap.size cs) := Below.setRow (Below.alloc (Below.refl _ _) (Nat.le_refl _) _) (Nat.le_refl _) _

theorem newL : stL (Spec.wordsOf []) (Spec.restOf [] ++ List.replicate 64 0) ((([] : List UInt8).length % 64 : Nat) : Int) 0 = [.int .u32 1779033703, .int .u32 3144134277, .int .u32 1013904242, .int .u32 2773480762, .int .u32 1359893119, .int .u32 2600822924, .int .u32 528734635, .int .u32 1541459225, .int .u8 0, .int .u8 0, .int .u8 0, .int .u8 0, .int .u8 0, .int .u8 0, .int .u8 0, .int .u8 0, .int .u8 0, .int .u8 0, .int .u8 0, .int .u8 0, .int .u8 0, .int .u8 0, .int .u8 0, .int .u8 0, .int .u8 0, .int .u8 0, .int .u8 0, .int .u8 0, .int .u8 0, .int .u8 0, .int .u8 0, .int .u8 0, .int .u8 0, .int .u8 0, .int .u8 0, .int .u8 0, .int .u8 0, .int .u8 0, .int .u8 0, .int .u8 0, .int .u8 0, .int .u8 0, .int .u8 0, .int .u8 0, .int .u8 0, .int .u8 0, .int .u8 0, .int .u8 0, .int .u8 0, .int .u8 0, .int .u8 0, .int .u8 0, .int .u8 0, .int .u8 0, .int .u8 0, .int .u8 0, .int .u8 0, .int .u8 0, .int .u8 0, .int .u8 0, .int .u8 0, .int .u8 0, .int .u8 0, .int .u8 0, .int .u8 0, .int .u8 0, .int .u8 0, .int .u8 0, .int .u8 0, .int .u8 0, .int .u8 0, .int .u8 0, .int .i64 0, .int .i64 0] := by kernel_rfl
set_option maxHeartbeats 1000000 in
set_option maxRecDepth 100000 in
theorem new_calls (w : World) (hF : FTab w) : Calls Tryd.prog 18 #[] w (fun e w' => e = .returned (.pointer (some ⟨w.heap.size, 0, none⟩)) ∧ Below w.heap.size w w' ∧ w'.heap.size = w.heap.size + 1 ∧ St w' w.heap.size [] 0) := by
  have HF := Aside0.mk hF.2
  have hz := zero76
  rw [firstL_eq] at HF
  clear hF
  go_enter Tryd.func18, Tryd.ntmps18
  go_wp2_with (with_reducible refine gate_dst (N := 1) rfl ?_; refine wpList_load_mid rfl 71 _ rfl 2 0 rfl firstL _ HF.out Tryd.underlying71 rfl (by kernel_rfl) ?_; unfold firstL)
  go_ret
  exact ⟨rfl, Below.alloc (Below.refl _ _) (Nat.le_refl _) _, by simp, List.replicate 64 0, rfl, by rw [newL]; exact Row.alloc w _ 76⟩

theorem len_calls (w : World) (g : Nat) (bs : List UInt8) (tk : Int) (hS : St w g bs tk) : Calls Tryd.prog 22 #[.pointer (some ⟨g, 0, none⟩)] w (fun e w' => e = .returned (.int .i64 tk) ∧ w' = w) := by
  obtain ⟨T, hT, hR⟩ := hS
  have ct := hR.cell (stL_taken _ _ _ _ hT)
  clear hR
  go_enter Tryd.func22, Tryd.ntmps22
  go_wp2
  go_ret
  exact ⟨rfl, rfl⟩
theorem len_none (w : World) : Calls Tryd.prog 22 #[.pointer none] w (fun e w' => e = .returned (.int .i64 0) ∧ w' = w) := by
  go_enter Tryd.func22, Tryd.ntmps22
  go_wp2
  go_ret
  exact ⟨rfl, rfl⟩
theorem copy_none (w : World) : Calls Tryd.prog 24 #[.pointer none] w (fun e w' => e = .returned (.pointer none) ∧ w' = w) := by
  go_enter Tryd.func24, Tryd.ntmps24
  go_wp2
  go_ret
  exact ⟨rfl, rfl⟩
theorem write_none (w : World) (A : Option Addr) (n c : Nat) : Calls Tryd.prog 20 #[.pointer none, .slice A n c] w (fun e w' => e = .returned (.tuple #[]) ∧ w' = w) := by
  go_enter Tryd.func20, Tryd.ntmps20
  go_wp2
  (try simp only [Exit.inBlock, Exit.then])
  refine bodyPost_ret (results_none rfl _ _ _) rfl ?_
  exact ⟨rfl, rfl⟩
set_option maxHeartbeats 1000000 in
set_option maxRecDepth 100000 in
theorem copy_calls (w : World) (g : Nat) (bs : List UInt8) (tk : Int) (hS : St w g bs tk) : Calls Tryd.prog 24 #[.pointer (some ⟨g, 0, none⟩)] w (fun e w' => e = .returned (.pointer (some ⟨w.heap.size, 0, none⟩)) ∧ Below w.heap.size w w' ∧ w'.heap.size = w.heap.size + 1 ∧ St w' w.heap.size bs tk) := by
  obtain ⟨T, hT, hR⟩ := hS
  have HT := Aside0.mk hT
  have HR := Aside0.mk hR
  have hz := zero76
  clear hR hT
  go_enter Tryd.func24, Tryd.ntmps24
  go_wp2_with (with_reducible refine gate_dst (N := 8) rfl ?_; refine Aside0.out ?_)
  refine Aside0.mk ?_
  refine wpList_load_row rfl 76 _ rfl g rfl 76 (stL (Spec.wordsOf bs) (Spec.restOf bs ++ T) ((bs.length % 64 : Nat) : Int) tk).toArray (0, 0) _ HR.out Tryd.underlying76 rfl (stSize _ _ _ _ HT.out) ?_
  go_wp2_with (with_reducible change wpList _ _ _ (Oper.mk _ (Op.store 76 _ _) _ _ _ _ :: _) _ _; refine Aside0.out ?_)
  refine Aside0.mk ?_
  refine wpList_store_row rfl 76 _ _ rfl w.heap.size (stL (Spec.wordsOf bs) (Spec.restOf bs ++ T) ((bs.length % 64 : Nat) : Int) tk).toArray rfl (by simp [go_sem]) 76 _ (heap_alloc_new _ _) (stSize _ _ _ _ HT.out) (by simp only [List.size_toArray, stL_length, HT.out]; rfl) (stOne _ _ _ _) ?_
  go_wp2
  go_ret
  exact ⟨rfl, below_alloc_setRow _ _ _, by simp, T, HT.out, alloc_setRow _ _ _ _⟩
end Go.Proofs.YtnkhhnfmijljbaaDoor
