
import Derived.Test.YthhemephaabblaaGreatDoorRows
import Derived.Test.YthhemephaabblaaGreatDoorZDk
import Derived.Lib.LaidTab
import Derived.Stop.LaidErr
import Derived.ProofKit
import Derived.OpenShut
import Derived.SliceStrings
import Derived.Test.YthhemephaabblaaGreatDoorZDj
namespace Go.Proofs.YthhemephaabblaaGreatDoor.Hq
open Go.RowKit Go.Lib
set_option linter.unusedVariables false
set_option linter.unusedSimpArgs false
theorem var_iface {H : Type} {enc : TypeId × Value → H} {P : Program} {w : World} {base : Nat} {sp : Nat → Bool} {held : Bool} {fuel : Nat} {ti : TypeId} {ms : Array (String × TypeId)} {cs : List Value} {n : String} {d : DataW H} {p : List MemPlace}
  (hi : P.underlying ti = some (.interface ms)) (h : DataW.trod enc P w base sp held fuel ti cs = some (.iface n d, p)) : ∃ tp v, cs = [.iface tp v] := by
 cases fuel with
 | zero => simp [DataW.trod] at h
 | succ m =>
  unfold DataW.trod at h
  rw [hi] at h
  split at h <;> simp_all
def laidL : List (String × DataW Unit) := [("math/bits.deBruijn32tab", Rows.laid_math_bits_deBruijn32tab), ("math/bits.deBruijn64tab", Rows.laid_math_bits_deBruijn64tab), ("internal/strconv.uint64pow10", Rows.laid_internal_strconv_uint64pow10), ("strconv.ErrRange", Rows.laid_strconv_ErrRange), ("strconv.ErrSyntax", Rows.laid_strconv_ErrSyntax)]
theorem syn_at {P : Program} {n nm : String} {d : DataW Unit} {r : List (String × DataW Unit)} {W : World} {g : Nat} {ti : TypeId} {ms : Array (String × TypeId)} (h : laidMet P ((n, .iface nm d) :: r) W) (hg : P.globalNamed n = some g) (ht : (P.globals[g]?).map (·.type) = some ti) (hi : P.underlying ti = some (.interface ms)) : ∃ tp p, W.var? P n = some #[.iface tp p] := by
 obtain ⟨ps, ⟨g0, t0, cs0, f0, p0, q0, hg0, ht0, hv0, hd0, _, e0⟩, _, hrows⟩ := h
 obtain rfl := Option.some.inj (hg.symm.trans hg0)
 obtain rfl := Option.some.inj (ht.symm.trans ht0)
 obtain ⟨l0⟩ := cs0
 obtain ⟨tp, v, rfl⟩ := var_iface hi hd0
 exact ⟨tp, v, hv0⟩
theorem glob_of_laid {W : World} (h : laidMet Tryz.prog laidL W) : Glob2 W := by
 have hp : laidMet Tryz.prog (("internal/strconv.uint64pow10", Lib.tabData .u64 Lib.pow10Tab) :: [("strconv.ErrRange", Rows.laid_strconv_ErrRange), ("strconv.ErrSyntax", Rows.laid_strconv_ErrSyntax)]) W := h.tail.tail
 refine ⟨⟨Lib.tabIs_of_head (g := 3) (t := 183) (e := 156) (n := 20) (by kernel_rfl) (by kernel_rfl) Tryz.underlying183 Tryz.underlying156 (by kernel_rfl) (by kernel_rfl) hp⟩, ?_⟩
 have hs : laidMet Tryz.prog (("strconv.ErrSyntax", Rows.laid_strconv_ErrSyntax) :: []) W := hp.tail.tail
 exact syn_at (g := 0) hs (by kernel_rfl) (by kernel_rfl) Tryz.underlying91
noncomputable def put (h : Array Obj) (g : Nat) (cs : Array Value) : Array Obj := h.modify g fun
 | .cells _ t frozen => .cells cs t frozen
 | o => o
def b32 : List Int := [0, 1, 28, 2, 29, 14, 24, 3, 30, 22, 20, 15, 25, 17, 4, 8, 31, 27, 13, 23, 21, 19, 16, 7, 26, 12, 18, 6, 11, 5, 10, 9]
def b64 : List Int := [0, 1, 56, 2, 57, 49, 28, 3, 61, 58, 42, 50, 38, 29, 17, 4, 62, 47, 59, 36, 45, 43, 51, 22, 53, 39, 33, 30, 24, 18, 12, 5, 63, 55, 48, 27, 60, 41, 37, 16, 46, 35, 44, 21, 52, 32, 23, 11, 54, 26, 40, 15, 34, 20, 31, 10, 25, 14, 19, 9, 13, 8, 7, 6]
noncomputable def laidWorld (os : Os) : World :=
 let N := (World.settled Tryz.prog os).heap.size
 let w0 := World.holding Tryz.prog os ⟨#[.cells #[.string ⟨#[105, 110, 118, 97, 108, 105, 100, 32, 115, 121, 110, 116, 97, 120]⟩] 190, .cells #[.string ⟨#[118, 97, 108, 117, 101, 32, 111, 117, 116, 32, 111, 102, 32, 114, 97, 110, 103, 101]⟩] 190], #[], []⟩
 let h0 := put (put w0.heap 0 #[.iface 188 (.pointer (some ⟨N, 0, none⟩))]) 1 #[.iface 188 (.pointer (some ⟨N + 1, 0, none⟩))]
 let h1 := put (put (put h0 3 (Lib.pow10Tab.map (Value.int .u64)).toArray) 4 (b32.map (Value.int .u8)).toArray) 5 (b64.map (Value.int .u8)).toArray
 { w0 with heap := h1 }
theorem laid_met (os : Os) (args : Array Value) : laidMet Tryz.prog laidL ((laidWorld os).forCall (fun _ _ => 0) ⟨#[], args, []⟩).memory :=
 laidMet_of_run' 8 (by kernel_rfl) (by kernel_rfl)
end Go.Proofs.YthhemephaabblaaGreatDoor.Hq
namespace Go.Proofs.YthhemephaabblaaGreatDoor.Hq
open Go.RowKit Go.Proofs.YthhemephaabblaaGreatDoorW.PrintWords Go.Proofs.YthhemephaabblaaGreatDoorW.PrintLast Go.Proofs.YthhemephaabblaaGreatDoorW.PrintMore Go.Proofs.YthhemephaabblaaGreatDoor Go.Proofs.YthhemephaabblaaGreatDoor.Q Go.Proofs.YthhemephaabblaaGreatDoor.R
set_option linter.unusedVariables false
set_option linter.unusedSimpArgs false
def Te (B : Nat) (w : World) (v : Value) (ts : List Tst) : Prop := w.ownsRow B 70 3 v ts.length (ts.flatMap tcells)
theorem te_C {B : Nat} {w : World} {v : Value} {ts : List Tst} (h : Te B w v ts) (hl : ts.length ≤ 1000000000) : ∃ A c, v = .slice A ts.length c ∧ ts.length ≤ c ∧ Kd.C k70 w A ts.length (ts.map t70) := by
 obtain ⟨A, c, rfl, hc⟩ := own_form h
 refine ⟨A, c, rfl, hc, by rw [List.length_map], by omega, fun hp => ?_⟩
 rcases h.2 with ⟨he, h0⟩ | ⟨g, cap, cur, he, _⟩
 ·
  omega
 ·
  injection he with hA _ _
  subst hA
  refine ⟨_, rfl, fun j p hj => ⟨[.string p.f0, .int .i64 p.f1, .string p.f2], rfl, k70_mk w p, fun i u hu => ?_⟩⟩
  have hi : i < 3 := (List.getElem?_eq_some_iff.1 hu).1
  have e : k70.sz = 3 := rfl
  rw [e]
  refine World.ownsRow.cells h (g := g) rfl _ _ ?_
  rw [List.getElem?_map] at hj
  cases hx : ts[j]? with
  | none => rw [hx] at hj; cases hj
  | some y =>
   rw [hx] at hj
   obtain rfl := Option.some.inj hj
   rw [flat_get ts j i y hx hi]
   exact hu
end Go.Proofs.YthhemephaabblaaGreatDoor.Hq
namespace Go.Proofs.YthhemephaabblaaGreatDoor.Hq
open Go.RowKit Go.ChangeShapes Go.WideShapes Go.ChangeAt Go.Proofs.YthhemephaabblaaGreatDoorW.PrintWords Go.Proofs.YthhemephaabblaaGreatDoorW.PrintLast Go.Proofs.YthhemephaabblaaGreatDoorW.PrintMore Go.Proofs.YthhemephaabblaaGreatDoor Go.Proofs.YthhemephaabblaaGreatDoor.Q Go.Proofs.YthhemephaabblaaGreatDoor.R
set_option linter.unusedVariables false
set_option linter.unusedSimpArgs false
theorem bulk_one_le {H : Type} (d : DataW H) : 1 ≤ Rows.uptoBulk d := by
 cases d with
 | lit l => cases l <;> simp [Rows.uptoBulk]
 | nil => simp [Rows.uptoBulk]
 | ptr d => simp [Rows.uptoBulk]
 | slice elems spare => simp [Rows.uptoBulk]
 | agg parts => simp [Rows.uptoBulk]
 | iface t d => simp [Rows.uptoBulk]
 | map entries => simp [Rows.uptoBulk]
 | held h => simp [Rows.uptoBulk]
theorem bulk_length {H : Type} (l : List (DataW H)) : l.length ≤ Rows.uptoBulkAll l := by
 induction l with
 | nil => simp [Rows.uptoBulkAll]
 | cons x r ih => have := bulk_one_le x; simp only [Rows.uptoBulkAll, List.length_cons]; omega
theorem bulk_mem {H : Type} : ∀ (l : List (DataW H)) (d : DataW H), d ∈ l → Rows.uptoBulk d ≤ Rows.uptoBulkAll l
 | x :: l, d, h => by
  simp only [Rows.uptoBulkAll]
  rcases List.mem_cons.1 h with rfl | h
  ·
   omega
  ·
   have := bulk_mem l d h; omega
section
variable {H : Type} {enc : TypeId × Value → H} {w : World} {fuel : Nat} {v : Value}
theorem cells9 : Tryz.prog.cellsOf 9 = 1 := by kernel_rfl
theorem cells22 : Tryz.prog.cellsOf 22 = 1 := by kernel_rfl
theorem cells29 : Tryz.prog.cellsOf 29 = 1 := by kernel_rfl
theorem cells70 : Tryz.prog.cellsOf 70 = 3 := by kernel_rfl
theorem cells4 : Tryz.prog.cellsOf 4 = 1 := by kernel_rfl
theorem cells3 : Tryz.prog.cellsOf 3 = 1 := by kernel_rfl
theorem open_strs {y : DataW H × List MemPlace} {cs : List Value} (h : DataW.trod enc Tryz.prog w 0 (fun _ => true) true fuel 22 cs = some y) :
  ∃ (A : Option Addr) (c : Nat) (xs : List (List UInt8)), cs = [.slice A xs.length c] ∧ xs.length ≤ c ∧ Kd.C Kd.string w A xs.length (xs.map strB) ∧ xs.length + 1 ≤ Rows.uptoBulk y.1 ∧ ∀ x ∈ xs, x.length + 1 ≤ Rows.uptoBulk y.1 := by
 rcases open_strings Tryz.underlying22 Tryz.underlying9 cells9 h with ⟨rfl, hy⟩ | ⟨a, len, cap, ss, rfl, _, hl, hm, hss, hy, hcell, hsz⟩
 ·
  exact ⟨none, 0, [], rfl, Nat.le_refl _, ⟨rfl, by simp, fun hp => by simp at hp⟩, by rw [hy]; simp [Rows.uptoBulk], fun x hx => by cases hx⟩
 ·
  have hss' : ss.length = cap := by simpa using hss
  have e1 : ((ss.take len).map fun b => b.data.toList).length = len := by simp; omega
  have e2 : ((ss.take len).map fun b => b.data.toList).map strB = ss.take len := by
   rw [List.map_map]; exact (List.map_congr_left (fun b _ => strB_data b)).trans (List.map_id _)
  refine ⟨some a, cap, (ss.take len).map fun b => b.data.toList, by rw [e1], by rw [e1]; exact hl, ?_, ?_, ?_⟩
  ·
   rw [e1, e2]
   refine ⟨by simp; omega, by unfold maxLen at hm; omega, fun hp => ⟨a, rfl, fun j p hj => ?_⟩⟩
   have hjl : j < len := by have := (List.getElem?_eq_some_iff.1 hj).1; simp at this; omega
   rw [List.getElem?_take_of_lt hjl] at hj
   refine ⟨[.string p], rfl, rfl, fun i u hu => ?_⟩
   have hi : i = 0 := by have := (List.getElem?_eq_some_iff.1 hu).1; simpa using this
   subst hi
   simp only [List.getElem?_cons_zero, Option.some.injEq] at hu
   subst hu
   have e : Kd.string.sz = 1 := rfl
   rw [e, Nat.mul_one, Nat.add_zero]
   have := hcell j (by omega)
   rw [List.getD_eq_getElem?_getD, hj] at this
   exact this
  ·
   rw [e1, hy]
   simp only [Rows.uptoBulk]
   have h1 := bulk_length (strs (H := H) (ss.take len))
   have h2 : (strs (H := H) (ss.take len)).length = len := by simp [strs]; omega
   omega
  ·
   intro x hx
   obtain ⟨b, hb, rfl⟩ := List.mem_map.1 hx
   rw [hy]
   simp only [Rows.uptoBulk]
   have h1 := bulk_mem (strs (H := H) (ss.take len)) (.lit (.string b.data.toList)) (by unfold strs; exact List.mem_map.2 ⟨b, hb, rfl⟩)
   simp only [Rows.uptoBulk] at h1
   omega
set_option maxRecDepth 100000 in
theorem open_test {y : DataW H × List MemPlace} {cs : List Value} (h : DataW.trod enc Tryz.prog w 0 (fun _ => true) true fuel 70 cs = some y) :
  ∃ t : Tst, cs = [.string (strB t.col), .int .i64 t.op, .string (strB t.val)] ∧ t.col.length + 1 ≤ Rows.uptoBulk y.1 ∧ t.val.length + 1 ≤ Rows.uptoBulk y.1 := by
 obtain ⟨xs, n, rfl, hy, hcl, hxl, hf⟩ := DataW.trod_struct Tryz.underlying70 h
 have f0 : DataW.trod enc Tryz.prog w 0 (fun _ => true) true n 9 ((cs.drop 0).take (Tryz.prog.cellsOf 9)) = xs[0]? := hf 0 _ rfl
 have f1 : DataW.trod enc Tryz.prog w 0 (fun _ => true) true n 3 ((cs.drop 1).take (Tryz.prog.cellsOf 3)) = xs[1]? := hf 1 _ rfl
 have f2 : DataW.trod enc Tryz.prog w 0 (fun _ => true) true n 9 ((cs.drop 2).take (Tryz.prog.cellsOf 9)) = xs[2]? := hf 2 _ rfl
 rw [cells70] at hcl
 simp only [cells9, cells3] at f0 f1 f2
 match xs, hxl, cs, hcl with
 | [x0, x1, x2], _, [v0, v1, v2], _ =>
  simp only [List.drop_zero, List.drop_succ_cons, List.take_succ_cons, List.take_zero, List.getElem?_cons_zero, List.getElem?_cons_succ] at f0 f1 f2
  obtain ⟨s0, e0, rfl, h0⟩ := DataW.trod_string Tryz.underlying9 f0
  obtain ⟨n1, e1, rfl, h1⟩ := DataW.trod_int Tryz.underlying3 f1
  obtain ⟨s2, e2, rfl, h2⟩ := DataW.trod_string Tryz.underlying9 f2
  simp only [List.cons.injEq, and_true] at e0 e1 e2
  subst e0 e1 e2
  refine ⟨⟨s0.data.toList, n1, s2.data.toList⟩, by simp only [strB_data], ?_, ?_⟩
  ·
   rw [hy]; simp only [List.map_cons, List.map_nil, Rows.uptoBulk, Rows.uptoBulkAll]; omega
  ·
   rw [hy]; simp only [List.map_cons, List.map_nil, Rows.uptoBulk, Rows.uptoBulkAll]; omega
theorem open_tests {y : DataW H × List MemPlace} {cs : List Value} (h : DataW.trod enc Tryz.prog w 0 (fun _ => true) true fuel 29 cs = some y) :
  ∃ (A : Option Addr) (c : Nat) (ts : List Tst), cs = [.slice A ts.length c] ∧ ts.length ≤ c ∧ Kd.C k70 w A ts.length (ts.map t70) ∧ ts.length + 1 ≤ Rows.uptoBulk y.1 ∧ ∀ t ∈ ts, t.col.length + 1 ≤ Rows.uptoBulk y.1 ∧ t.val.length + 1 ≤ Rows.uptoBulk y.1 := by
 rcases DataW.trod_slice Tryz.underlying29 h with ⟨rfl, hy⟩ | ⟨a', len, cap, elems, rest, m, _, rfl, hx, hb, hl, hm, hlen, hel, hsp, hns⟩
 ·
  exact ⟨none, 0, [], rfl, Nat.le_refl _, ⟨rfl, by simp, fun hp => by simp at hp⟩, by rw [hy]; simp [Rows.uptoBulk], fun x hx => by cases hx⟩
 ·
  have key : ∀ i, ∃ t : Tst, ∀ y, elems[i]? = some y → (∀ j u, (tcells t)[j]? = some u → w.cell? (a'.add (i * 3 + j)) = some u) ∧ t.col.length + 1 ≤ Rows.uptoBulk y.1 ∧ t.val.length + 1 ≤ Rows.uptoBulk y.1 := by
   intro i
   by_cases hi : i < elems.length
   ·
    have h1 := hel i (by omega)
    rw [List.getElem?_eq_getElem hi, cells70, Option.bind_eq_some_iff] at h1
    obtain ⟨cs', hcs', hy⟩ := h1
    obtain ⟨t, rfl, h2, h3⟩ := open_test hy
    refine ⟨t, fun y hy' => ?_⟩
    rw [List.getElem?_eq_getElem hi] at hy'
    cases hy'
    refine ⟨fun j u hu => ?_, h2, h3⟩
    have hj : j < 3 := (List.getElem?_eq_some_iff.1 hu).1
    obtain ⟨_, hlen', hcell⟩ := World.cells?_some hcs'
    have h4 := hcell j hj
    have h5 : (a'.add (i * 3)).add j = a'.add (i * 3 + j) := Go.Proofs.YthhemephaabblaaGreatDoorW.PrintWords.add_add _ _ _
    rw [h5] at h4
    rw [h4]
    have hj3 : j = 0 ∨ j = 1 ∨ j = 2 := by omega
    rcases hj3 with rfl | rfl | rfl
    ·
     simpa [tcells] using hu
    ·
     simpa [tcells] using hu
    ·
     simpa [tcells] using hu
   ·
    exact ⟨⟨[], 0, []⟩, fun y hy => by rw [List.getElem?_eq_none (by omega)] at hy; cases hy⟩
  obtain ⟨f, hfq⟩ := Classical.axiomOfChoice key
  have hel' : ∀ i, i < elems.length → elems[i]? = some (elems[i]?.getD (.nil, [])) := fun i hi => by rw [List.getElem?_eq_getElem hi]; rfl
  have hd : y.1 = .slice (elems.map (·.1)) (rest.map (·.1)) := congrArg Prod.fst hx
  have hbl : ∀ i, i < elems.length → (f i).col.length + 1 ≤ Rows.uptoBulk y.1 ∧ (f i).val.length + 1 ≤ Rows.uptoBulk y.1 := by
   intro i hi
   obtain ⟨_, h2, h3⟩ := hfq i _ (hel' i hi)
   have h4 := bulk_mem (elems.map (·.1)) (elems[i]?.getD (.nil, [])).1 (List.mem_map.2 ⟨_, List.mem_of_getElem? (hel' i hi), rfl⟩)
   rw [hd]
   simp only [Rows.uptoBulk]
   omega
  refine ⟨some a', cap, (List.range len).map f, by simp, by simpa using hl, ⟨by simp, by simp; unfold maxLen at hm; omega, fun hp => ⟨a', rfl, fun j p hj => ?_⟩⟩, ?_, ?_⟩
  ·
   have hjl : j < len := by have := (List.getElem?_eq_some_iff.1 hj).1; simpa using this
   have hp' : p = t70 (f j) := by
    rw [List.getElem?_map, List.getElem?_map, List.getElem?_range hjl] at hj
    exact (Option.some.inj hj).symm
   subst hp'
   obtain ⟨h1, _⟩ := hfq j _ (hel' j (by omega))
   exact ⟨[.string (strB (f j).col), .int .i64 (f j).op, .string (strB (f j).val)], rfl, k70_mk w (t70 (f j)), fun i u hu => h1 i u hu⟩
  ·
   rw [hd]
   simp only [Rows.uptoBulk, List.length_map, List.length_range]
   have h1 := bulk_length (elems.map (·.1))
   rw [List.length_map, hlen] at h1
   omega
  ·
   intro t ht
   obtain ⟨i, hi, rfl⟩ := List.mem_map.1 ht
   exact hbl i (by have := List.mem_range.1 hi; omega)
set_option maxRecDepth 100000 in
theorem open_arg_q {r : Reach} {b0 : Nat} {d : DataW H} {p : List MemPlace} (hv : Value.okWide Tryz.prog w r b0 31 v) (h : DataW.Trod enc Tryz.prog w 0 (fun _ => true) true 31 v d p) :
  ∃ (q : Qry) (A5 : Option Addr) (c5 : Nat) (A7 : Option Addr) (c7 : Nat), v = .agg #[.slice A5 q.cols.length c5, .string (strB q.tab), .slice A7 q.wh.length c7, .string (strB q.ord), .bool q.down, .int .i64 q.lim] ∧ q.cols.length ≤ c5 ∧ q.wh.length ≤ c7 ∧ Kd.C Kd.string w A5 q.cols.length (q.cols.map strB) ∧ Kd.C k70 w A7 q.wh.length (q.wh.map t70) ∧
   q.cols.length ≤ Rows.uptoBulk d ∧ q.wh.length ≤ Rows.uptoBulk d ∧ (Rows.uptoBulk d ≤ 1000000000 → okQ q) := by
 obtain ⟨cs, rfl, hsz⟩ := okWide_struct Tryz.underlying31 hv
 obtain ⟨fuel, hf⟩ := h
 obtain ⟨xs, n, rfl, hy, hcl, hxl, hfl⟩ := DataW.trod_struct Tryz.underlying31 hf
 have f0 : DataW.trod enc Tryz.prog w 0 (fun _ => true) true n 22 ((cs.toList.drop 0).take (Tryz.prog.cellsOf 22)) = xs[0]? := hfl 0 _ rfl
 have f1 : DataW.trod enc Tryz.prog w 0 (fun _ => true) true n 9 ((cs.toList.drop 1).take (Tryz.prog.cellsOf 9)) = xs[1]? := hfl 1 _ rfl
 have f2 : DataW.trod enc Tryz.prog w 0 (fun _ => true) true n 29 ((cs.toList.drop 2).take (Tryz.prog.cellsOf 29)) = xs[2]? := hfl 2 _ rfl
 have f3 : DataW.trod enc Tryz.prog w 0 (fun _ => true) true n 9 ((cs.toList.drop 3).take (Tryz.prog.cellsOf 9)) = xs[3]? := hfl 3 _ rfl
 have f4 : DataW.trod enc Tryz.prog w 0 (fun _ => true) true n 4 ((cs.toList.drop 4).take (Tryz.prog.cellsOf 4)) = xs[4]? := hfl 4 _ rfl
 have f5 : DataW.trod enc Tryz.prog w 0 (fun _ => true) true n 3 ((cs.toList.drop 5).take (Tryz.prog.cellsOf 3)) = xs[5]? := hfl 5 _ rfl
 simp only [cells9, cells3, cells4, cells22, cells29] at f0 f1 f2 f3 f4 f5
 have hcl' : cs.toList.length = 6 := by
  have : Tryz.prog.cellsOf 31 = 6 := by kernel_rfl
  simpa [this, Value.cells] using hsz
 obtain ⟨l, hl⟩ : ∃ l, cs = l.toArray := ⟨cs.toList, by simp⟩
 subst hl
 simp only [List.toList_toArray] at f0 f1 f2 f3 f4 f5 hcl'
 match xs, hxl, l, hcl' with
 | [x0, x1, x2, x3, x4, x5], _, [v0, v1, v2, v3, v4, v5], _ =>
  simp only [List.drop_zero, List.drop_succ_cons, List.take_succ_cons, List.take_zero, List.getElem?_cons_zero, List.getElem?_cons_succ] at f0 f1 f2 f3 f4 f5
  obtain ⟨A5, c5, cols, e0, hc5, hC5, hb5, hx5⟩ := open_strs f0
  obtain ⟨s1, e1, rfl, h1⟩ := DataW.trod_string Tryz.underlying9 f1
  obtain ⟨A7, c7, wh, e2, hc7, hC7, hb7, hx7⟩ := open_tests f2
  obtain ⟨s3, e3, rfl, h3⟩ := DataW.trod_string Tryz.underlying9 f3
  obtain ⟨b4, e4, rfl⟩ := DataW.trod_bool Tryz.underlying4 f4
  obtain ⟨n5, e5, rfl, h5⟩ := DataW.trod_int Tryz.underlying3 f5
  simp only [List.cons.injEq, and_true] at e0 e1 e2 e3 e4 e5
  subst e0 e1 e2 e3 e4 e5
  have hd : Rows.uptoBulk d = Rows.uptoBulk x0.1 + (s1.data.toList.length + 1) + Rows.uptoBulk x2.1 + (s3.data.toList.length + 1) + 1 + 1 + 1 := by
   have h0 : d = _ := congrArg Prod.fst hy
   rw [h0]
   simp only [List.map_cons, List.map_nil, Rows.uptoBulk, Rows.uptoBulkAll]
   omega
  refine ⟨⟨cols, s1.data.toList, wh, s3.data.toList, b4, n5⟩, A5, c5, A7, c7, by simp only [strB_data], hc5, hc7, hC5, hC7, ?_, ?_, fun hB => ?_⟩
  ·
   show cols.length ≤ _; omega
  ·
   show wh.length ≤ _; omega
  ·
   refine ⟨fun c hc => ?_, ?_, fun t ht => ?_, ?_, ?_, ?_⟩
   ·
    have := hx5 c hc; omega
   ·
    show s1.data.toList.length ≤ _; omega
   ·
    have := hx7 t ht; omega
   ·
    show s3.data.toList.length ≤ _; omega
   ·
    show cols.length ≤ _; omega
   ·
    show wh.length ≤ _; omega
end
end Go.Proofs.YthhemephaabblaaGreatDoor.Hq
namespace Go.Proofs.YthhemephaabblaaGreatDoor.Hq
open Go.RowKit Go.Proofs.YthhemephaabblaaGreatDoorW.PrintWords Go.Proofs.YthhemephaabblaaGreatDoorW.PrintLast Go.Proofs.YthhemephaabblaaGreatDoorW.PrintMore Go.Proofs.YthhemephaabblaaGreatDoor Go.Proofs.YthhemephaabblaaGreatDoor.Q Go.Proofs.YthhemephaabblaaGreatDoor.R
set_option linter.unusedVariables false
set_option linter.unusedSimpArgs false
theorem own_app2 {P : Program} {base : Nat} {W : World} (t ty e : TypeId) (i : TypeInfo) (z : Value) (size bytes : Nat) (ht : P.underlying t = some (.slice e)) (hi : P.info? e = some i) (hz : i.zero = some z) (hsize : i.size = size) (hby : i.bytes = bytes) (hzs : z.cells.size = size) (hsz : 0 < size) (hb0 : 0 < bytes)
  {v : Value} {n : Nat} {L : List Value} (hown : W.ownsRow base e size v n L) (A : Option Addr) (m c : Nat) (news : List Value) (hl : news.length = m * size) (hnews : 0 < m → ∃ a, A = some a ∧ ∀ j u, news[j]? = some u → W.cell? (a.add j) = some u) (h1 : ∀ u ∈ news, u.oneCell' = true)
  (hbytes : (n + m) * bytes ≤ 140737488355328) (hbase : base ≤ W.heap.size) :
  ∃ v1 w1, (Builtin.append_ #[t, t] ty #[v, .slice A m c]).run P W = .ok v1 w1 ∧ w1.ownsRow base e size v1 (n + m) (L ++ news) ∧ W.grownBy w1 v.ownBlock ∧ ∀ u n' L', (n' ≤ n ∨ (n' ≤ n + m ∧ L' = (L ++ news).take (n' * size))) → W.ownsRow base e size u n' L' → w1.ownsRow base e size u n' L' := by
 have hlen : n + m ≤ 140737488355328 := Nat.le_trans (Nat.le_mul_of_pos_right _ hb0) hbytes
 rcases Nat.eq_zero_or_pos m with h0 | h0
 ·
  subst h0
  have hn0 : news = [] := List.eq_nil_of_length_eq_zero (by omega)
  subst hn0
  refine ⟨v, W, ?_, by simpa using hown, ⟨rfl, rfl, rfl, Nat.le_refl _, fun _ _ _ => rfl⟩, fun u n' L' _ h => h⟩
  rcases hown.2 with ⟨rfl, hn⟩ | ⟨g, cap, cur, rfl, hb, hh, hnc, hcm, hcs, ht2⟩
  ·
   cases A with
   | none => simp [Builtin.append_, run_underlying ht, sizeOf, typeInfo, hi, Builtin.lenOf, Builtin.firstCells, storeCells]
   | some a => simp [Builtin.append_, run_underlying ht, sizeOf, typeInfo, hi, Builtin.lenOf, Builtin.firstCells, storeCells, loadCells, loadCellsFrom]
  ·
   cases A with
   | none => simp [Builtin.append_, run_underlying ht, sizeOf, typeInfo, hi, Builtin.lenOf, Builtin.firstCells, storeCells, hnc]
   | some a => simp [Builtin.append_, run_underlying ht, sizeOf, typeInfo, hi, Builtin.lenOf, Builtin.firstCells, storeCells, loadCells, loadCellsFrom, hnc]
 ·
  obtain ⟨a, rfl, hnw⟩ := hnews h0
  obtain ⟨v1, w1, hr, hown1, hg, _, _⟩ := run_append_own_at (P := P) W base t ty e i z size bytes ht hi hz hsize hby hzs hsz v n L hown a m c news hl hnw h1 (by simp only [maxLen]; omega) hbytes hbase
  refine ⟨v1, w1, hr, hown1, hg, fun u n' L' hn' hu => ?_⟩
  by_cases hne : u.ownBlock = none ∨ v.ownBlock ≠ u.ownBlock
  ·
   refine World.ownsRow.kept hu hg ?_
   rcases hne with h | h
   ·
    exact .inl h
   ·
    exact .inr (fun e => h e.symm)
  ·
   have hub : u.ownBlock ≠ none := fun e => hne (.inl e)
   have hvu : v.ownBlock = u.ownBlock := by
    by_cases h : v.ownBlock = u.ownBlock
    ·
     exact h
    ·
     exact absurd (.inr h) hne
   rcases hu.2 with ⟨rfl, _⟩ | ⟨g, cap, cur, rfl, hb, hh, hnc, hcm, hcs, htk⟩
   ·
    exact absurd rfl hub
   rcases hown.2 with ⟨rfl, _⟩ | ⟨g', cap', cur', rfl, hb', hh', hnc', hcm', hcs', htk'⟩
   ·
    exact absurd hvu.symm hub
   have hgg : g' = g := by simpa [Value.ownBlock] using hvu
   subst hgg
   rw [hh] at hh'
   cases hh'
   have hcc : cap = cap' := Nat.eq_of_mul_eq_mul_right hsz (hcs.symm.trans hcs')
   subst hcc
   have hcl : cur.toList.length = cap * size := by simp [hcs]
   have hns : n * size ≤ cap * size := Nat.mul_le_mul_right _ hnc'
   by_cases hroom : n + m ≤ cap
   ·
    have hmul : (n + m) * size ≤ cap * size := Nat.mul_le_mul_right _ hroom
    rw [Nat.add_mul] at hmul
    have hr2 := run_append_room (P := P) W t ty e i ht hi g' n cap cur hh a m c news (by rw [hl, hsize]) hnw h1 hroom (by rw [hsize, hl, hcs]; omega)
    rw [hr2] at hr
    injection hr with _ hw
    subst hw
    refine ⟨hu.1, .inr ⟨g', cap, _, rfl, hb, setRow_heap _ _ _ _ _ _ hh, hnc, hcm, ?_, ?_⟩⟩
    ·
     rw [hsize, List.size_toArray, List.length_append, List.length_append, List.length_take, List.length_drop, hcl, hl]
     omega
    ·
     rw [hsize]
     rcases hn' with hn' | ⟨hn', hL'⟩
     ·
      have hns' : n' * size ≤ n * size := Nat.mul_le_mul_right _ hn'
      rw [List.append_assoc, List.take_append_of_le_length (by rw [List.length_take, hcl]; omega), List.take_take, Nat.min_eq_left hns']
      exact htk
     ·
      have hns' : n' * size ≤ (n + m) * size := Nat.mul_le_mul_right _ hn'
      rw [Nat.add_mul] at hns'
      rw [htk', List.take_append_of_le_length (by rw [List.length_append, hown.1, hl]; exact hns')]
      exact hL'.symm
   ·
    have hL : L.length = n * i.size := by rw [hsize]; exact hown.1
    have hr2 := run_append_grow (P := P) W t ty e i z ht hi hz ⟨g', 0, none⟩ n cap L hL (fun j u hu => hown.cells (g := g') rfl j u hu) a m c news (by rw [hl, hsize]) hnw (by omega) (by omega) (growslice_fits (by omega) (by rw [hby]; omega))
    rw [hr2] at hr
    injection hr with _ hw
    subst hw
    exact own_ext hu (((Ext.refl W).drew).alloc _)
def wMark : List UInt8 := [109, 97, 114, 107]
def SpM (B : Nat) (X : List (List UInt8)) (W W' : World) : Prop := Below B W W' ∧ ∀ u xs, (xs.length ≤ X.length ∨ xs = [wMark] ∨ xs = X ++ [wMark]) → Sr B W u xs → Sr B W' u xs
theorem sr_mark {B : Nat} {W : World} (ty : TypeId) {v : Value} {xs : List (List UInt8)} (hO : Sr B W v xs) {y : Value} (hy : Sr B W y [wMark]) (hB : B ≤ W.heap.size) (hl : xs.length ≤ 100000000) :
  ∃ v1 w1, (Builtin.append_ #[22, 22] ty #[v, y]).run Tryz.prog W = .ok v1 w1 ∧ Sr B w1 v1 (xs ++ [wMark]) ∧ SpM B xs W w1 := by
 obtain ⟨i0, hi, hzz⟩ := Option.map_eq_some_iff.1 Hq.info9
 simp only [Prod.mk.injEq] at hzz
 obtain ⟨hz0, hz1, hz2⟩ := hzz
 obtain ⟨g, c, rfl, hc, hb, hlt, hcell⟩ := hy.shape (by decide)
 obtain ⟨v1, w1, hr, hown, hg, hold⟩ := own_app2 (P := Tryz.prog) 22 ty 9 i0 (.string ⟨#[]⟩) 1 16 Tryz.underlying22 hi hz0 hz1 hz2 rfl (by decide) (by decide) hO (some ⟨g, 0, none⟩) 1 c [sv wMark] rfl (fun _ => ⟨_, rfl, fun j u hu => by
  match j, hu with
  | 0, hu =>
   obtain rfl := Option.some.inj hu
   rw [addr_add]
   exact hcell 0 wMark rfl⟩) (by intro u hu; simp only [List.mem_cons, List.not_mem_nil, or_false] at hu; subst hu; rfl) (by omega) hB
 refine ⟨v1, w1, hr, ?_, (Below.refl B W).grown hg hB (own_base hO), fun u zs hz hu => ?_⟩
 ·
  unfold Sr
  rw [List.length_append, List.map_append]
  exact hown
 ·
  refine hold u zs.length _ ?_ hu
  rcases hz with hz | rfl | rfl
  ·
   exact .inl hz
  ·
   by_cases h1 : 1 ≤ xs.length
   ·
    exact .inl h1
   ·
    obtain rfl : xs = [] := List.eq_nil_of_length_eq_zero (by omega)
    exact .inr ⟨by simp, rfl⟩
  ·
   exact .inr ⟨by simp, by rw [List.take_of_length_le (by simp)]; simp⟩
def tMark : Tst := ⟨[], 77, []⟩
theorem Sr.grown_tr {B B' : Nat} {W W1 : World} {v u : Value} {xs : List (List UInt8)} {ts : List Tst} (h : Sr B W v xs) (ht : Tr B' W u ts) (hG : W.grownBy W1 u.ownBlock) : Sr B W1 v xs := by
 refine World.ownsRow.kept h hG ?_
 rcases h.2 with ⟨rfl, _⟩ | ⟨g, cap, cur, rfl, hb, hh, _⟩
 ·
  exact .inl rfl
 ·
  refine .inr (fun e => ?_)
  rcases ht.2 with ⟨rfl, _⟩ | ⟨g2, cap2, cur2, rfl, hb2, hh2, _⟩
  ·
   cases e
  ·
   have e2 : g = g2 := Option.some.inj e
   subst e2
   rw [hh] at hh2
   cases hh2
def SpT (B : Nat) (X : List Tst) (W W' : World) : Prop := Below B W W' ∧ (∀ u xs, (xs.length ≤ X.length ∨ xs = [tMark] ∨ xs = X ++ [tMark]) → Tr B W u xs → Tr B W' u xs) ∧ ∀ u xs, Sr B W u xs → Sr B W' u xs
theorem tcells_len (l : List Tst) : (l.flatMap tcells).length = l.length * 3 := by
 induction l with
 | nil => rfl
 | cons t l ih => rw [List.flatMap_cons, List.length_append, ih, List.length_cons]; simp [tcells]; omega
theorem Tr.form {B : Nat} {W : World} {v : Value} {ts : List Tst} (h : Tr B W v ts) (hp : 0 < ts.length) : ∃ g c, v = .slice (some ⟨g, 0, none⟩) ts.length c ∧ ts.length ≤ c := by
 rcases h.2 with ⟨_, h0⟩ | ⟨g, cap, cur, rfl, hb, hh, hc, _⟩
 ·
  omega
 ·
  exact ⟨g, cap, rfl, hc⟩
theorem tr_mark {B : Nat} {W : World} (ty : TypeId) {v : Value} {ts : List Tst} (hO : Tr B W v ts) {y : Value} (hy : Tr B W y [tMark]) (hB : B ≤ W.heap.size) (hl : ts.length ≤ 100000000) :
  ∃ v1 w1, (Builtin.append_ #[23, 23] ty #[v, y]).run Tryz.prog W = .ok v1 w1 ∧ Tr B w1 v1 (ts ++ [tMark]) ∧ SpT B ts W w1 := by
 obtain ⟨i0, hi, hzz⟩ := Option.map_eq_some_iff.1 info37
 simp only [Prod.mk.injEq] at hzz
 obtain ⟨hz0, hz1, hz2⟩ := hzz
 obtain ⟨g, c, rfl, hc⟩ := hy.form (by decide)
 obtain ⟨v1, w1, hr, hown, hg, hold⟩ := own_app2 (P := Tryz.prog) 23 ty 37 i0 _ 3 40 Tryz.underlying23 hi hz0 hz1 hz2 rfl (by decide) (by decide) hO (some ⟨g, 0, none⟩) 1 c (tcells tMark) rfl (fun _ => ⟨_, rfl, fun j u hu => World.ownsRow.cells hy (g := g) rfl j u hu⟩) (by intro u hu; simp only [tcells, List.mem_cons, List.not_mem_nil, or_false] at hu; rcases hu with rfl | rfl | rfl <;> rfl) (by omega) hB
 refine ⟨v1, w1, hr, ?_, (Below.refl B W).grown hg hB (own_base hO), fun u zs hz hu => ?_, fun u xs hu => hu.grown_tr hO hg⟩
 ·
  unfold Tr
  rw [List.length_append, List.flatMap_append]
  exact (by simpa using hown)
 ·
  refine hold u zs.length _ ?_ hu
  rcases hz with hz | rfl | rfl
  ·
   exact .inl hz
  ·
   by_cases h1 : 1 ≤ ts.length
   ·
    exact .inl h1
   ·
    obtain rfl : ts = [] := List.eq_nil_of_length_eq_zero (by omega)
    exact .inr ⟨by simp, rfl⟩
  ·
   exact .inr ⟨by simp, by
    have e : (ts ++ [tMark]).flatMap tcells = ts.flatMap tcells ++ tcells tMark := by simp
    rw [e, List.take_of_length_le]
    rw [List.length_append, tcells_len, List.length_append]
    simp [tcells]
    omega⟩
theorem sr_copy {B b c0 : Nat} {W : World} (ty : TypeId) {ys : List (List UInt8)} (hO : Sr B W (.slice (some ⟨b, 0, none⟩) 0 0) []) {A : Option Addr} (hA : Kd.C Kd.string W A ys.length (ys.map strB)) (hB : B ≤ W.heap.size) (hl : ys.length ≤ 100000000) :
  ∃ v1 w1, (Builtin.append_ #[22, 22] ty #[.slice (some ⟨b, 0, none⟩) 0 0, .slice A ys.length c0]).run Tryz.prog W = .ok v1 w1 ∧ Sr B w1 v1 ys ∧ Ext W w1 := by
 obtain ⟨i0, hi, hzz⟩ := Option.map_eq_some_iff.1 Hq.info9
 simp only [Prod.mk.injEq] at hzz
 obtain ⟨hz0, hz1, hz2⟩ := hzz
 obtain ⟨v1, w1, hr, hown, hg, hold⟩ := own_app2 (P := Tryz.prog) 22 ty 9 i0 (.string ⟨#[]⟩) 1 16 Tryz.underlying22 hi hz0 hz1 hz2 rfl (by decide) (by decide) hO A ys.length c0 (ys.map sv) (by simp) (fun hp => by
  obtain ⟨hn, bk, o, rfl, hbk, hcell⟩ := strC_cells hA (by simpa using hp)
  refine ⟨_, rfl, fun j u hu => ?_⟩
  rw [List.getElem?_map] at hu
  cases hx : ys[j]? with
  | none => rw [hx] at hu; cases hu
  | some x =>
   rw [hx] at hu
   obtain rfl := Option.some.inj hu
   rw [addr_add]
   exact hcell j x hx) (sv_one ys) (by simp; omega) hB
 have h0 := hold (.slice (some ⟨b, 0, none⟩) 0 0) 0 [] (.inl (Nat.zero_le _)) hO
 refine ⟨v1, w1, hr, ?_, ⟨hg.os, hg.tape, hg.output, hg.size, fun k hk => ?_⟩⟩
 ·
  unfold Sr
  simpa using hown
 ·
  by_cases hkb : k = b
  ·
   subst hkb
   rcases hO.2 with ⟨h, _⟩ | ⟨g1, cap1, cur1, e1, _, hh1, _, _, hs1, _⟩
   ·
    cases h
   rcases h0.2 with ⟨h, _⟩ | ⟨g2, cap2, cur2, e2, _, hh2, _, _, hs2, _⟩
   ·
    cases h
   simp only [Value.slice.injEq, Option.some.injEq, Addr.mk.injEq, and_true, true_and] at e1 e2
   obtain ⟨rfl, _, rfl⟩ := e1
   obtain ⟨rfl, _, rfl⟩ := e2
   have n1 : cur1 = #[] := Array.eq_empty_of_size_eq_zero (by simpa using hs1)
   have n2 : cur2 = #[] := Array.eq_empty_of_size_eq_zero (by simpa using hs2)
   rw [hh1, hh2, n1, n2]
  ·
   exact hg.block k hk (fun e => hkb (Option.some.inj e))
theorem sr_cut {W : World} (A : Option Addr) (n c : Nat) (j : Nat) (hm : j ≤ c) : (Instr.slice 22 (.slice A n c) none (some (.int .i64 (j : Int))) none).run Tryz.prog W = .ok (.slice A j c) W := by
 obtain ⟨i0, hi, hzz⟩ := Option.map_eq_some_iff.1 Hq.info9
 have := cut_cap 22 9 .i64 Tryz.underlying22 hi A n c (j : Int) (by omega) (by omega) W
 simpa using this
theorem tr_cut {W : World} (A : Option Addr) (n c : Nat) (j : Nat) (hm : j ≤ c) : (Instr.slice 23 (.slice A n c) none (some (.int .i64 (j : Int))) none).run Tryz.prog W = .ok (.slice A j c) W := by
 obtain ⟨i0, hi, hzz⟩ := Option.map_eq_some_iff.1 info37
 have := cut_cap 23 37 .i64 Tryz.underlying23 hi A n c (j : Int) (by omega) (by omega) W
 simpa using this
theorem elem22 : Tryz.prog.underlying 22 = some (.slice (Tryz.prog.elem 22)) := by kernel_rfl
theorem elem23 : Tryz.prog.underlying 23 = some (.slice (Tryz.prog.elem 23)) := by kernel_rfl
theorem exec_sliceT {t : TypeId} (ht : Tryz.prog.underlying t = some (.slice (Tryz.prog.elem t))) {w : World} {ρ : Operand → Value} {o : Oper} {x : Operand} {lo hi mx : Option Operand} (ho : o.op = .slice t x lo hi mx) {v : Value} {w1 : World}
  (h : (Instr.slice t (ρ x) (lo.map ρ) (hi.map ρ) (mx.map ρ)).run Tryz.prog w = .ok v w1) : (execOp ρ o).run Tryz.prog w = .ok (.value v) w1 := by
 unfold execOp
 rw [ho]
 simp only [Sem.run_bind, Sem.run_pure, Result.andThen_ok, run_sliceAt_slice _ _ _ _ _ _ ht, h]
theorem tr_app {ops : Array Oper} {rest : List Oper} {o : Oper} {a : Act} {Q : Exit → Act → World → Prop} {W Wg : World} (B : Nat) (hgd : o.guard = none) (s x : Operand)
  (ho : o.op = .call { callee := .builtin .append, args := #[s, x], argTypes := #[23, 23] })
  (v : Value) (ts : List Tst) (t : Tst) (hs : a.eval s = v) (hx : a.eval x = .slice (some ⟨W.heap.size, 0, none⟩) 1 1) (hWg : Wg = W.alloc (.cells #[.string (strB t.col), .int .i64 t.op, .string (strB t.val)] 37))
  (HO : Tr B W v ts) (hbase : B ≤ W.heap.size) (hl : ts.length ≤ 100000000)
  (h : ∀ v1 w1, Tr B w1 v1 (ts ++ [t]) → Below B W w1 → W.grownBy w1 v.ownBlock → wpList Tryz.prog ops Q rest (a.put o.dst v1) w1) :
  wpList Tryz.prog ops Q (o :: rest) a Wg := by
 refine own_app_lit B hgd s x 23 37 (.agg #[.string ⟨#[]⟩, .int .i64 0, .string ⟨#[]⟩]) 3 40 ho Tryz.underlying23 info37 rfl (by decide) (by decide) v ts.length 1 (ts.flatMap tcells) #[.string (strB t.col), .int .i64 t.op, .string (strB t.val)] hs hx hWg rfl (by intro u hu; simp only [List.mem_cons, List.not_mem_nil, or_false] at hu; rcases hu with rfl | rfl | rfl <;> rfl) HO hbase (by omega) ?_
 intro v1 w1 hO hB hG
 refine h v1 w1 ?_ hB hG
 unfold Tr
 rw [List.length_append, List.flatMap_append]
 exact (by simpa [tcells] using hO)
end Go.Proofs.YthhemephaabblaaGreatDoor.Hq
namespace Go.Proofs.YthhemephaabblaaGreatDoor.Hq
open Go.RowKit Go.Proofs.YthhemephaabblaaGreatDoorW.PrintWords Go.Proofs.YthhemephaabblaaGreatDoorW.PrintLast Go.Proofs.YthhemephaabblaaGreatDoorW.PrintMore Go.Proofs.YthhemephaabblaaGreatDoor Go.Proofs.YthhemephaabblaaGreatDoor.Q Go.Proofs.YthhemephaabblaaGreatDoor.R
set_option linter.unusedVariables false
set_option linter.unusedSimpArgs false
def Or (e B : Nat) (w : World) (v : Value) (L : List Value) : Prop := w.ownsRow B e 1 v L.length L
theorem Or.ext {e B : Nat} {w w' : World} {v : Value} {L : List Value} (h : Or e B w v L) (hE : Ext w w') : Or e B w' v L := own_ext h hE
theorem Or.lit {e B : Nat} {w : World} (cs : Array Value) {L : List Value} (hB : B ≤ w.heap.size) (hc : cs.toList = L) (hl : L.length ≤ 9223372036854775807) : Or e B (w.alloc (.cells cs e)) (.slice (some ⟨w.heap.size, 0, none⟩) L.length L.length) L := by
 have h2 := World.ownsRow_lit (base := B) (e := e) (size := 1) w cs L.length hB (by simpa [maxLen] using hl) (by have := congrArg List.length hc; simpa using this)
 unfold Or
 rw [hc] at h2
 exact h2
theorem Or.form {e B : Nat} {w : World} {v : Value} {L : List Value} (h : Or e B w v L) (hp : 0 < L.length) : ∃ g c, v = .slice (some ⟨g, 0, none⟩) L.length c ∧ L.length ≤ c ∧ B ≤ g ∧ g < w.heap.size ∧ ∀ (j : Nat) u, L[j]? = some u → w.cell? ⟨g, j, none⟩ = some u := by
 rcases h.2 with ⟨_, h0⟩ | ⟨g, cap, cur, rfl, hb, hh, hc, hm, hs, ht⟩
 ·
  omega
 ·
  refine ⟨g, cap, rfl, hc, hb, ?_, fun j x hj => ?_⟩
  ·
   by_cases hlt : g < w.heap.size
   ·
    exact hlt
   ·
    rw [Array.getElem?_eq_none (by omega)] at hh; cases hh
  ·
   have hjl : j < L.length := (List.getElem?_eq_some_iff.1 hj).1
   have e : cur.toList[j]? = some x := by
    have h1 := congrArg (fun l => l[j]?) ht
    simp only [Nat.mul_one] at h1
    rw [List.getElem?_take_of_lt hjl, hj] at h1
    exact h1
   rw [cell_of_row w g j cur _ (0, 0) (by simpa using hh)]
   simpa using e
theorem Or.move {e B : Nat} {w w' : World} {v : Value} {L : List Value} (h : Or e B w v L) (hm : ∀ k, v.ownBlock = some k → w'.heap[k]? = w.heap[k]?) : Or e B w' v L := own_move h hm
def MkR (e B : Nat) (L : List Value) (m : Value) (W W' : World) : Prop :=
 ∃ v, Or e B W v L ∧ W.grownBy W' v.ownBlock ∧ ∀ u L', (L'.length ≤ L.length ∨ L' = [m] ∨ L' = L ++ [m]) → Or e B W u L' → Or e B W' u L'
theorem MkR.below {e B : Nat} {L : List Value} {m : Value} {W W' : World} (h : MkR e B L m W W') (hB : B ≤ W.heap.size) : Below B W W' := by
 obtain ⟨v, hO, hG, _⟩ := h
 exact (Below.refl B W).grown hG hB (own_base hO)
theorem MkR.other {e B : Nat} {L : List Value} {m : Value} {W W' : World} (h : MkR e B L m W W') {k t : Nat} {cs : Array Value} (hk : W.heap[k]? = some (.cells cs t (0, 0))) (ht : t ≠ e) : W'.heap[k]? = some (.cells cs t (0, 0)) := by
 obtain ⟨v, hO, hG, _⟩ := h
 have hlt : k < W.heap.size := by
  by_cases hlt : k < W.heap.size
  ·
   exact hlt
  ·
   rw [Array.getElem?_eq_none (by omega)] at hk; cases hk
 refine (hG.block k hlt (fun e0 => ?_)).trans hk
 obtain ⟨cs2, h2⟩ := own_typed hO k e0.symm
 rw [hk] at h2
 injection h2 with h2
 injection h2 with _ h3 _
 exact ht h3
theorem MkR.or {e B : Nat} {L : List Value} {m : Value} {W W' : World} (h : MkR e B L m W W') {u : Value} {L' : List Value} (hL : L'.length ≤ L.length ∨ L' = [m] ∨ L' = L ++ [m]) (hu : Or e B W u L') : Or e B W' u L' := by
 obtain ⟨_, _, _, h3⟩ := h
 exact h3 u L' hL hu
theorem mark_app {e B t bytes : Nat} {z m : Value} {W : World} (ty : TypeId) (ht : Tryz.prog.underlying t = some (.slice e)) (hinfo : (Tryz.prog.info? e).map (fun i => (i.zero, i.size, i.bytes)) = some (some z, 1, bytes)) (hz : z.cells.size = 1) (hb0 : 0 < bytes) (hb1 : bytes ≤ 32)
  {v : Value} {L : List Value} (hO : Or e B W v L) {y : Value} (hy : Or e B W y [m]) (hm : m.oneCell' = true) (hB : B ≤ W.heap.size) (hl : L.length ≤ 100000000) :
  ∃ v1 w1, (Builtin.append_ #[t, t] ty #[v, y]).run Tryz.prog W = .ok v1 w1 ∧ Or e B w1 v1 (L ++ [m]) ∧ MkR e B L m W w1 := by
 obtain ⟨i0, hi, hzz⟩ := Option.map_eq_some_iff.1 hinfo
 simp only [Prod.mk.injEq] at hzz
 obtain ⟨hz0, hz1, hz2⟩ := hzz
 obtain ⟨g, c, rfl, hc, hb, hlt, hcell⟩ := hy.form (by simp)
 have hbb : (L.length + 1) * bytes ≤ 140737488355328 := Nat.le_trans (Nat.mul_le_mul (show L.length + 1 ≤ 100000001 by omega) hb1) (by decide)
 obtain ⟨v1, w1, hr, hown, hg, hold⟩ := own_app2 (P := Tryz.prog) t ty e i0 z 1 bytes ht hi hz0 hz1 hz2 hz (by decide) hb0 hO (some ⟨g, 0, none⟩) 1 c [m] rfl (fun _ => ⟨_, rfl, fun j u hu => by
  match j, hu with
  | 0, hu =>
   obtain rfl := Option.some.inj hu
   rw [addr_add]
   exact hcell 0 m rfl⟩) (by intro u hu; simp only [List.mem_cons, List.not_mem_nil, or_false] at hu; subst hu; exact hm) hbb hB
 refine ⟨v1, w1, by simpa using hr, ?_, v, hO, hg, fun u zs hz hu => ?_⟩
 ·
  unfold Or
  rw [List.length_append]
  exact hown
 ·
  refine hold u zs.length _ ?_ hu
  rcases hz with hz | rfl | rfl
  ·
   exact .inl hz
  ·
   by_cases h1 : 1 ≤ L.length
   ·
    exact .inl h1
   ·
    obtain rfl : L = [] := List.eq_nil_of_length_eq_zero (by omega)
    exact .inr ⟨by simp, rfl⟩
  ·
   exact .inr ⟨by simp, by rw [List.take_of_length_le (by simp)]⟩
theorem copy_app {e B t bytes b c0 : Nat} {z : Value} {W : World} (ty : TypeId) (ht : Tryz.prog.underlying t = some (.slice e)) (hinfo : (Tryz.prog.info? e).map (fun i => (i.zero, i.size, i.bytes)) = some (some z, 1, bytes)) (hz : z.cells.size = 1) (hb0 : 0 < bytes) (hb1 : bytes ≤ 32)
  {L : List Value} (hO : Or e B W (.slice (some ⟨b, 0, none⟩) 0 0) []) {A : Option Addr} (hA : 0 < L.length → ∃ a, A = some a ∧ ∀ j u, L[j]? = some u → W.cell? (a.add j) = some u) (h1 : ∀ u ∈ L, u.oneCell' = true) (hB : B ≤ W.heap.size) (hl : L.length ≤ 100000000) :
  ∃ v1 w1, (Builtin.append_ #[t, t] ty #[.slice (some ⟨b, 0, none⟩) 0 0, .slice A L.length c0]).run Tryz.prog W = .ok v1 w1 ∧ Or e B w1 v1 L ∧ Ext W w1 := by
 obtain ⟨i0, hi, hzz⟩ := Option.map_eq_some_iff.1 hinfo
 simp only [Prod.mk.injEq] at hzz
 obtain ⟨hz0, hz1, hz2⟩ := hzz
 have hbb : (0 + L.length) * bytes ≤ 140737488355328 := Nat.le_trans (Nat.mul_le_mul (show 0 + L.length ≤ 100000001 by omega) hb1) (by decide)
 obtain ⟨v1, w1, hr, hown, hg, hold⟩ := own_app2 (P := Tryz.prog) t ty e i0 z 1 bytes ht hi hz0 hz1 hz2 hz (by decide) hb0 (show W.ownsRow B e 1 _ 0 [] from hO) A L.length c0 L (by simp) hA h1 hbb hB
 have h0 := hold (.slice (some ⟨b, 0, none⟩) 0 0) 0 [] (.inl (Nat.zero_le _)) hO
 refine ⟨v1, w1, hr, ?_, ⟨hg.os, hg.tape, hg.output, hg.size, fun k hk => ?_⟩⟩
 ·
  unfold Or
  simpa using hown
 ·
  by_cases hkb : k = b
  ·
   subst hkb
   rcases hO.2 with ⟨h, _⟩ | ⟨g1, cap1, cur1, e1, _, hh1, _, _, hs1, _⟩
   ·
    cases h
   rcases h0.2 with ⟨h, _⟩ | ⟨g2, cap2, cur2, e2, _, hh2, _, _, hs2, _⟩
   ·
    cases h
   simp only [Value.slice.injEq, Option.some.injEq, Addr.mk.injEq, and_true, true_and] at e1 e2
   obtain ⟨rfl, _, rfl⟩ := e1
   obtain ⟨rfl, _, rfl⟩ := e2
   have n1 : cur1 = #[] := Array.eq_empty_of_size_eq_zero (by simpa using hs1)
   have n2 : cur2 = #[] := Array.eq_empty_of_size_eq_zero (by simpa using hs2)
   rw [hh1, hh2, n1, n2]
  ·
   exact hg.block k hk (fun e => hkb (Option.some.inj e))
theorem one_app {e B t bytes : Nat} {z m : Value} {W : World} (ty : TypeId) (ht : Tryz.prog.underlying t = some (.slice e)) (hinfo : (Tryz.prog.info? e).map (fun i => (i.zero, i.size, i.bytes)) = some (some z, 1, bytes)) (hz : z.cells.size = 1) (hb0 : 0 < bytes) (hb1 : bytes ≤ 32)
  {v : Value} {L : List Value} (hO : Or e B W v L) {g c : Nat} (hy : W.cell? ⟨g, 0, none⟩ = some m) (hm : m.oneCell' = true) (hB : B ≤ W.heap.size) (hl : L.length ≤ 100000000) :
  ∃ v1 w1, (Builtin.append_ #[t, t] ty #[v, .slice (some ⟨g, 0, none⟩) 1 c]).run Tryz.prog W = .ok v1 w1 ∧ Or e B w1 v1 (L ++ [m]) ∧ Or e B w1 v L ∧ W.grownBy w1 v.ownBlock := by
 obtain ⟨i0, hi, hzz⟩ := Option.map_eq_some_iff.1 hinfo
 simp only [Prod.mk.injEq] at hzz
 obtain ⟨hz0, hz1, hz2⟩ := hzz
 have hbb : (L.length + 1) * bytes ≤ 140737488355328 := Nat.le_trans (Nat.mul_le_mul (show L.length + 1 ≤ 100000001 by omega) hb1) (by decide)
 obtain ⟨v1, w1, hr, hown, hg, hold⟩ := own_app2 (P := Tryz.prog) t ty e i0 z 1 bytes ht hi hz0 hz1 hz2 hz (by decide) hb0 hO (some ⟨g, 0, none⟩) 1 c [m] rfl (fun _ => ⟨_, rfl, fun j u hu => by
  match j, hu with
  | 0, hu =>
   obtain rfl := Option.some.inj hu
   rw [addr_add]
   exact hy⟩) (by intro u hu; simp only [List.mem_cons, List.not_mem_nil, or_false] at hu; subst hu; exact hm) hbb hB
 refine ⟨v1, w1, hr, ?_, hold v L.length L (.inl (Nat.le_refl _)) hO, hg⟩
 unfold Or
 rw [List.length_append]
 exact hown
def iv (x : Int) : Value := .int .i64 x
theorem info3' : (Tryz.prog.info? 3).map (fun i => (i.zero, i.size, i.bytes)) = some (some (.int .i64 0), 1, 8) := by kernel_rfl
theorem info50 : (Tryz.prog.info? 50).map (fun i => (i.zero, i.size, i.bytes)) = some (some (.slice none 0 0), 1, 24) := by kernel_rfl
theorem und50 : Tryz.prog.underlying 50 = some (.slice 3) := by kernel_rfl
theorem und47 : Tryz.prog.underlying 47 = some (.slice 50) := by kernel_rfl
theorem elem50 : Tryz.prog.underlying 50 = some (.slice (Tryz.prog.elem 50)) := by kernel_rfl
theorem iv_one (l : List Int) : ∀ u ∈ l.map iv, u.oneCell' = true := by
 intro u hu
 obtain ⟨x, _, rfl⟩ := List.mem_map.1 hu
 rfl
theorem intC_cells {w : World} {A : Option Addr} {n : Nat} {xs : List Int} (h : Kd.C (Kd.int .i64) w A n xs) : n = xs.length ∧ (0 < xs.length → ∃ a, A = some a ∧ ∀ j u, (xs.map iv)[j]? = some u → w.cell? (a.add j) = some u) := by
 refine ⟨h.1.symm, fun hp => ?_⟩
 obtain ⟨a, hA, hc⟩ := h.2.2 (by have := h.1; omega)
 refine ⟨a, hA, fun j u hu => ?_⟩
 rw [List.getElem?_map] at hu
 cases hx : xs[j]? with
 | none => rw [hx] at hu; cases hu
 | some x =>
  rw [hx] at hu
  obtain rfl := Option.some.inj hu
  obtain ⟨c, hl, hK, hcell⟩ := hc j x hx
  have e : c = [iv x] := hK
  subst e
  have := hcell 0 (iv x) rfl
  have e1 : (Kd.int IntKind.i64).sz = 1 := rfl
  rw [e1, Nat.mul_one, Nat.add_zero] at this
  exact this
theorem ir_cut {W : World} (A : Option Addr) (n c : Nat) (j : Nat) (hm : j ≤ c) : (Instr.slice 50 (.slice A n c) none (some (.int .i64 (j : Int))) none).run Tryz.prog W = .ok (.slice A j c) W := by
 obtain ⟨i0, hi, hzz⟩ := Option.map_eq_some_iff.1 info3'
 have := cut_cap 50 3 .i64 und50 hi A n c (j : Int) (by omega) (by omega) W
 simpa using this
def Rv (B : Nat) (w : World) (l : List Int) (u : Value) : Prop := ∃ b c, u = .slice (some ⟨b, 0, none⟩) l.length c ∧ Or 3 B w (.slice (some ⟨b, 0, none⟩) (l.length + 1) c) (l.map iv ++ [iv 77])
theorem Rv.ext {B : Nat} {w w' : World} {l : List Int} {u : Value} (h : Rv B w l u) (hE : Ext w w') : Rv B w' l u := by
 obtain ⟨b, c, h1, h2⟩ := h
 exact ⟨b, c, h1, h2.ext hE⟩
theorem Rv.less {B B' : Nat} {w : World} {l : List Int} {u : Value} (h : Rv B w l u) (hB : B' ≤ B) : Rv B' w l u := by
 obtain ⟨b, c, h1, h2⟩ := h
 exact ⟨b, c, h1, own_less h2 hB⟩
theorem Rv.cells {B : Nat} {w : World} {l : List Int} {u : Value} (h : Rv B w l u) : ∃ b c, u = .slice (some ⟨b, 0, none⟩) l.length c ∧ l.length + 1 ≤ c ∧ B ≤ b ∧ b < w.heap.size ∧ (∀ (j : Nat) x, l[j]? = some x → w.cell? ⟨b, j, none⟩ = some (iv x)) ∧ w.cell? ⟨b, l.length, none⟩ = some (iv 77) ∧ ∃ cs, w.heap[b]? = some (.cells cs 3 (0, 0)) := by
 obtain ⟨b, c, rfl, h⟩ := h
 obtain ⟨g, c', he, hc, hB, hlt, hcell⟩ := h.form (by simp)
 simp only [Value.slice.injEq, Option.some.injEq, Addr.mk.injEq, and_true, true_and] at he
 obtain ⟨rfl, hn, rfl⟩ := he
 rw [← hn] at hc
 refine ⟨b, c, rfl, hc, hB, hlt, fun j x hj => hcell j _ ?_, hcell l.length _ ?_, own_typed h b (by simp [Value.ownBlock])⟩
 ·
  have hjl : j < l.length := (List.getElem?_eq_some_iff.1 hj).1
  rw [List.getElem?_append_left (by simpa using hjl), List.getElem?_map, hj]
  rfl
 ·
  rw [List.getElem?_append_right (by simp)]
  simp
structure Xr (B : Nat) (w : World) (v : Value) (ls : List (List Int)) (U : List Value) : Prop where
 own : Or 50 B w v U
 len : U.length = ls.length
 each : ∀ (j : Nat) l u, ls[j]? = some l → U[j]? = some u → Rv B w l u
theorem Xr.C {B : Nat} {w : World} {v : Value} {ls : List (List Int)} {U : List Value} (h : Xr B w v ls U) (hl : ls.length ≤ 1000000000) (hm : ∀ l ∈ ls, l.length ≤ 1000000000) : ∃ A c, v = .slice A ls.length c ∧ ls.length ≤ c ∧ Kd.C (Kd.slice 3 (Kd.int .i64)) w A ls.length ls := by
 obtain ⟨A, c, rfl, hc⟩ := own_form h.own
 rw [h.len] at hc ⊢
 refine ⟨A, c, rfl, hc, rfl, by omega, fun hp => ?_⟩
 obtain ⟨g, c', he, _, _, _, hcell⟩ := h.own.form (by rw [h.len]; exact hp)
 injection he with hA _ _
 subst hA
 refine ⟨_, rfl, fun j l hj => ?_⟩
 have hjl : j < ls.length := (List.getElem?_eq_some_iff.1 hj).1
 obtain ⟨uj, hju⟩ : ∃ u, U[j]? = some u := ⟨U[j]'(by rw [h.len]; exact hjl), List.getElem?_eq_getElem _⟩
 obtain ⟨b, cb, hu, hcb, _, _, hcl, _, _⟩ := (h.each j l _ hj hju).cells
 refine ⟨[.slice (some ⟨b, 0, none⟩) l.length cb], rfl, ⟨_, cb, rfl, by omega, rfl, ?_, fun hp => ⟨_, rfl, fun i p hi => ⟨[iv p], rfl, rfl, fun k u hk => ?_⟩⟩⟩, fun k u hk => ?_⟩
 ·
  have := hm l (List.mem_of_getElem? hj)
  omega
 ·
  have hk0 : k = 0 := by have := (List.getElem?_eq_some_iff.1 hk).1; simpa using this
  subst hk0
  simp only [List.getElem?_cons_zero, Option.some.injEq] at hk
  subst hk
  have e : (Kd.int IntKind.i64).sz = 1 := rfl
  rw [e, Nat.mul_one, Nat.add_zero, addr_add, Nat.zero_add]
  exact hcl i p hi
 ·
  have hk0 : k = 0 := by have := (List.getElem?_eq_some_iff.1 hk).1; simpa using this
  subst hk0
  simp only [List.getElem?_cons_zero, Option.some.injEq] at hk
  subst hk
  have e : (Kd.slice 3 (Kd.int IntKind.i64)).sz = 1 := rfl
  rw [e, Nat.mul_one, Nat.add_zero, addr_add, Nat.zero_add, ← hu]
  exact hcell j _ hju
end Go.Proofs.YthhemephaabblaaGreatDoor.Hq
namespace Go.Proofs.YthhemephaabblaaGreatDoor.Hq
open Go.RowKit Go.ChangeShapes Go.WideShapes Go.ChangeAt Go.Proofs.YthhemephaabblaaGreatDoorW.PrintWords Go.Proofs.YthhemephaabblaaGreatDoorW.PrintLast Go.Proofs.YthhemephaabblaaGreatDoorW.PrintMore Go.Proofs.YthhemephaabblaaGreatDoor Go.Proofs.YthhemephaabblaaGreatDoor.Q Go.Proofs.YthhemephaabblaaGreatDoor.R
set_option linter.unusedVariables false
set_option linter.unusedSimpArgs false
section
variable {H : Type} {enc : TypeId × Value → H} {w : World} {fuel : Nat} {v : Value}
theorem cells47 : Tryz.prog.cellsOf 47 = 1 := by kernel_rfl
theorem cells50 : Tryz.prog.cellsOf 50 = 1 := by kernel_rfl
theorem cell_of_cells {b0 : Nat} {a : Addr} {x : Value} (h : w.cells? b0 a 1 = some [x]) : w.cell? a = some x := by
 obtain ⟨_, _, hcell⟩ := World.cells?_some h
 have := hcell 0 (by decide)
 have e : a.add 0 = a := by unfold Addr.add; simp
 rw [e] at this
 exact this
theorem open_ints {y : DataW H × List MemPlace} {cs : List Value} (h : DataW.trod enc Tryz.prog w 0 (fun _ => true) true fuel 50 cs = some y) :
  ∃ (A : Option Addr) (c : Nat) (xs : List Int), cs = [.slice A xs.length c] ∧ xs.length ≤ c ∧ Kd.C (Kd.int .i64) w A xs.length xs ∧ xs.length + 1 ≤ Rows.uptoBulk y.1 := by
 rcases DataW.trod_slice und50 h with ⟨rfl, hy⟩ | ⟨a', len, cap, elems, rest, m, _, rfl, hx, hb, hl, hm, hlen, hel, hsp, hns⟩
 ·
  exact ⟨none, 0, [], rfl, Nat.le_refl _, ⟨rfl, by simp, fun hp => by simp at hp⟩, by rw [hy]; simp [Rows.uptoBulk]⟩
 ·
  have key : ∀ i, ∃ x : Int, i < elems.length → w.cell? (a'.add i) = some (.int .i64 x) := by
   intro i
   by_cases hi : i < elems.length
   ·
    have h1 := hel i (by omega)
    rw [List.getElem?_eq_getElem hi, cells3, Option.bind_eq_some_iff, Nat.mul_one] at h1
    obtain ⟨cs', hcs', hy⟩ := h1
    obtain ⟨n1, rfl, _, _⟩ := DataW.trod_int Tryz.underlying3 hy
    exact ⟨n1, fun _ => cell_of_cells hcs'⟩
   ·
    exact ⟨0, fun h => absurd h hi⟩
  obtain ⟨f, hfq⟩ := Classical.axiomOfChoice key
  have hd : y.1 = .slice (elems.map (·.1)) (rest.map (·.1)) := congrArg Prod.fst hx
  refine ⟨some a', cap, (List.range len).map f, by simp, by simpa using hl, ⟨by simp, by simp; unfold maxLen at hm; omega, fun hp => ⟨a', rfl, fun j p hj => ?_⟩⟩, ?_⟩
  ·
   have hjl : j < len := by have := (List.getElem?_eq_some_iff.1 hj).1; simpa using this
   have hp' : p = f j := by
    rw [List.getElem?_map, List.getElem?_range hjl] at hj
    exact (Option.some.inj hj).symm
   subst hp'
   refine ⟨[.int .i64 (f j)], rfl, rfl, fun i u hu => ?_⟩
   have hi : i = 0 := by have := (List.getElem?_eq_some_iff.1 hu).1; simpa using this
   subst hi
   simp only [List.getElem?_cons_zero, Option.some.injEq] at hu
   subst hu
   have e : (Kd.int IntKind.i64).sz = 1 := rfl
   rw [e, Nat.mul_one, Nat.add_zero]
   exact hfq j (by omega)
  ·
   rw [hd]
   simp only [Rows.uptoBulk, List.length_map, List.length_range]
   have h1 := bulk_length (elems.map (·.1))
   rw [List.length_map, hlen] at h1
   omega
theorem open_idx {y : DataW H × List MemPlace} {cs : List Value} (h : DataW.trod enc Tryz.prog w 0 (fun _ => true) true fuel 47 cs = some y) :
  ∃ (A : Option Addr) (c : Nat) (xs : List (List Int)), cs = [.slice A xs.length c] ∧ xs.length ≤ c ∧ Kd.C (Kd.slice 3 (Kd.int .i64)) w A xs.length xs ∧ xs.length + 1 ≤ Rows.uptoBulk y.1 ∧ ∀ x ∈ xs, x.length + 1 ≤ Rows.uptoBulk y.1 := by
 rcases DataW.trod_slice und47 h with ⟨rfl, hy⟩ | ⟨a', len, cap, elems, rest, m, _, rfl, hx, hb, hl, hm, hlen, hel, hsp, hns⟩
 ·
  exact ⟨none, 0, [], rfl, Nat.le_refl _, ⟨rfl, by simp, fun hp => by simp at hp⟩, by rw [hy]; simp [Rows.uptoBulk], fun x hx => by cases hx⟩
 ·
  have key : ∀ i, ∃ t : Option Addr × Nat × List Int, ∀ y, elems[i]? = some y → w.cell? (a'.add i) = some (.slice t.1 t.2.2.length t.2.1) ∧ t.2.2.length ≤ t.2.1 ∧ Kd.C (Kd.int .i64) w t.1 t.2.2.length t.2.2 ∧ t.2.2.length + 1 ≤ Rows.uptoBulk y.1 := by
   intro i
   by_cases hi : i < elems.length
   ·
    have h1 := hel i (by omega)
    rw [List.getElem?_eq_getElem hi, cells50, Option.bind_eq_some_iff, Nat.mul_one] at h1
    obtain ⟨cs', hcs', hy⟩ := h1
    obtain ⟨A0, c0, xs, rfl, h2, h3, h4⟩ := open_ints hy
    refine ⟨(A0, c0, xs), fun y hy' => ?_⟩
    rw [List.getElem?_eq_getElem hi] at hy'
    cases hy'
    exact ⟨cell_of_cells hcs', h2, h3, h4⟩
   ·
    exact ⟨(none, 0, []), fun y hy => by rw [List.getElem?_eq_none (by omega)] at hy; cases hy⟩
  obtain ⟨f, hfq⟩ := Classical.axiomOfChoice key
  have hel' : ∀ i, i < elems.length → elems[i]? = some (elems[i]?.getD (.nil, [])) := fun i hi => by rw [List.getElem?_eq_getElem hi]; rfl
  have hd : y.1 = .slice (elems.map (·.1)) (rest.map (·.1)) := congrArg Prod.fst hx
  refine ⟨some a', cap, (List.range len).map fun i => (f i).2.2, by simp, by simpa using hl, ⟨by simp, by simp; unfold maxLen at hm; omega, fun hp => ⟨a', rfl, fun j p hj => ?_⟩⟩, ?_, ?_⟩
  ·
   have hjl : j < len := by have := (List.getElem?_eq_some_iff.1 hj).1; simpa using this
   have hp' : p = (f j).2.2 := by
    rw [List.getElem?_map, List.getElem?_range hjl] at hj
    exact (Option.some.inj hj).symm
   subst hp'
   obtain ⟨h1, h2, h3, _⟩ := hfq j _ (hel' j (by omega))
   refine ⟨[.slice (f j).1 (f j).2.2.length (f j).2.1], rfl, ⟨(f j).1, (f j).2.1, rfl, h2, h3⟩, fun i u hu => ?_⟩
   have hi : i = 0 := by have := (List.getElem?_eq_some_iff.1 hu).1; simpa using this
   subst hi
   simp only [List.getElem?_cons_zero, Option.some.injEq] at hu
   subst hu
   have e : (Kd.slice 3 (Kd.int IntKind.i64)).sz = 1 := rfl
   rw [e, Nat.mul_one, Nat.add_zero]
   exact h1
  ·
   rw [hd]
   simp only [Rows.uptoBulk, List.length_map, List.length_range]
   have h1 := bulk_length (elems.map (·.1))
   rw [List.length_map, hlen] at h1
   omega
  ·
   intro t ht
   obtain ⟨i, hi, rfl⟩ := List.mem_map.1 ht
   have hil : i < elems.length := by have := List.mem_range.1 hi; omega
   obtain ⟨_, _, _, h3⟩ := hfq i _ (hel' i hil)
   have h4 := bulk_mem (elems.map (·.1)) (elems[i]?.getD (.nil, [])).1 (List.mem_map.2 ⟨_, List.mem_of_getElem? (hel' i hil), rfl⟩)
   rw [hd]
   simp only [Rows.uptoBulk]
   omega
set_option maxRecDepth 100000 in
theorem open_arg_s {r : Reach} {b0 : Nat} {d : DataW H} {p : List MemPlace} (hv : Value.okWide Tryz.prog w r b0 49 v) (h : DataW.Trod enc Tryz.prog w 0 (fun _ => true) true 49 v d p) :
  ∃ (nm : ByteArray) (cols : List (List UInt8)) (ks : Int) (idx : List (List Int)) (A1 : Option Addr) (c1 : Nat) (A3 : Option Addr) (c3 : Nat), v = .agg #[.string nm, .slice A1 cols.length c1, .int .i64 ks, .slice A3 idx.length c3] ∧ cols.length ≤ c1 ∧ idx.length ≤ c3 ∧ Kd.C Kd.string w A1 cols.length (cols.map strB) ∧ Kd.C (Kd.slice 3 (Kd.int .i64)) w A3 idx.length idx ∧
   cols.length ≤ Rows.uptoBulk d ∧ idx.length ≤ Rows.uptoBulk d ∧ ∀ x ∈ idx, x.length ≤ Rows.uptoBulk d := by
 obtain ⟨cs, rfl, hsz⟩ := okWide_struct Tryz.underlying49 hv
 obtain ⟨fuel, hf⟩ := h
 obtain ⟨xs, n, rfl, hy, hcl, hxl, hfl⟩ := DataW.trod_struct Tryz.underlying49 hf
 have f0 : DataW.trod enc Tryz.prog w 0 (fun _ => true) true n 9 ((cs.toList.drop 0).take (Tryz.prog.cellsOf 9)) = xs[0]? := hfl 0 _ rfl
 have f1 : DataW.trod enc Tryz.prog w 0 (fun _ => true) true n 22 ((cs.toList.drop 1).take (Tryz.prog.cellsOf 22)) = xs[1]? := hfl 1 _ rfl
 have f2 : DataW.trod enc Tryz.prog w 0 (fun _ => true) true n 3 ((cs.toList.drop 2).take (Tryz.prog.cellsOf 3)) = xs[2]? := hfl 2 _ rfl
 have f3 : DataW.trod enc Tryz.prog w 0 (fun _ => true) true n 47 ((cs.toList.drop 3).take (Tryz.prog.cellsOf 47)) = xs[3]? := hfl 3 _ rfl
 simp only [cells9, cells3, cells22, cells47] at f0 f1 f2 f3
 have hcl' : cs.toList.length = 4 := by
  have : Tryz.prog.cellsOf 49 = 4 := by kernel_rfl
  simpa [this, Value.cells] using hsz
 obtain ⟨l, hl⟩ : ∃ l, cs = l.toArray := ⟨cs.toList, by simp⟩
 subst hl
 simp only [List.toList_toArray] at f0 f1 f2 f3 hcl'
 match xs, hxl, l, hcl' with
 | [x0, x1, x2, x3], _, [v0, v1, v2, v3], _ =>
  simp only [List.drop_zero, List.drop_succ_cons, List.take_succ_cons, List.take_zero, List.getElem?_cons_zero, List.getElem?_cons_succ] at f0 f1 f2 f3
  obtain ⟨s0, e0, rfl, h0⟩ := DataW.trod_string Tryz.underlying9 f0
  obtain ⟨A1, c1, cols, e1, hc1, hC1, hb1, _⟩ := open_strs f1
  obtain ⟨n2, e2, rfl, h2⟩ := DataW.trod_int Tryz.underlying3 f2
  obtain ⟨A3, c3, idx, e3, hc3, hC3, hb3, hx3⟩ := open_idx f3
  simp only [List.cons.injEq, and_true] at e0 e1 e2 e3
  subst e0 e1 e2 e3
  have hd : Rows.uptoBulk d = (s0.data.toList.length + 1) + Rows.uptoBulk x1.1 + 1 + Rows.uptoBulk x3.1 + 1 := by
   have h0 : d = _ := congrArg Prod.fst hy
   rw [h0]
   simp only [List.map_cons, List.map_nil, Rows.uptoBulk, Rows.uptoBulkAll]
   omega
  refine ⟨s0, cols, n2, idx, A1, c1, A3, c3, rfl, hc1, hc3, hC1, hC3, by omega, by omega, fun x hx => ?_⟩
  have := hx3 x hx
  omega
end
end Go.Proofs.YthhemephaabblaaGreatDoor.Hq
namespace Go.Proofs.YthhemephaabblaaGreatDoor.Hq
open Go.RowKit Go.Proofs.YthhemephaabblaaGreatDoorW.PrintWords Go.Proofs.YthhemephaabblaaGreatDoorW.PrintLast Go.Proofs.YthhemephaabblaaGreatDoorW.PrintMore Go.Proofs.YthhemephaabblaaGreatDoor Go.Proofs.YthhemephaabblaaGreatDoor.Q Go.Proofs.YthhemephaabblaaGreatDoor.R
set_option linter.unusedVariables false
set_option linter.unusedSimpArgs false
def MinV (B : Nat) (w : World) (q : Qry) (v5 v7 : Value) : Prop :=
 (∃ b c, v5 = .slice (some ⟨b, 0, none⟩) q.cols.length c ∧ Sr B w (.slice (some ⟨b, 0, none⟩) (q.cols.length + 1) c) (q.cols ++ [wMark])) ∧
 (∃ b c, v7 = .slice (some ⟨b, 0, none⟩) q.wh.length c ∧ Tr B w (.slice (some ⟨b, 0, none⟩) (q.wh.length + 1) c) (q.wh ++ [tMark]))
def MR (B : Nat) (X : List (List UInt8)) (i : Nat) (W W' : World) : Prop := if i = 5 then SpM B X W W' else Ext W W'
theorem MR.ne {B i : Nat} {X : List (List UInt8)} {W W' : World} (h : i ≠ 5) (hR : MR B X i W W') : Ext W W' := by unfold MR at hR; rw [if_neg h] at hR; exact hR
theorem MR.of {B : Nat} {X : List (List UInt8)} {W W' : World} (h : SpM B X W W') : MR B X 5 W W' := by unfold MR; rw [if_pos rfl]; exact h
theorem MR.ext {B i : Nat} {X : List (List UInt8)} {W W' : World} (h : i ≠ 5) (hE : Ext W W') : MR B X i W W' := by unfold MR; rw [if_neg h]; exact hE
theorem MR.sr {B i : Nat} {X : List (List UInt8)} {W W' : World} (hR : MR B X i W W') {u : Value} {xs : List (List UInt8)} (hx : xs.length ≤ X.length ∨ xs = [wMark] ∨ xs = X ++ [wMark]) (h : Sr B W u xs) : Sr B W' u xs := by
 by_cases hi : i = 5
 ·
  unfold MR at hR; rw [if_pos hi] at hR; exact hR.2 u xs hx h
 ·
  exact h.ext (hR.ne hi)
theorem MR.below {B i : Nat} {X : List (List UInt8)} {w W W' : World} (hB : Below B w W) (hs : B ≤ W.heap.size) (hR : MR B X i W W') : Below B w W' := by
 by_cases hi : i = 5
 ·
  unfold MR at hR; rw [if_pos hi] at hR; exact hB.trans hR.1
 ·
  exact hB.trans ((hR.ne hi).mono hs)
theorem MR.refl {B : Nat} {X : List (List UInt8)} (i : Nat) (W : World) : MR B X i W W := by
 unfold MR
 split
 ·
  exact ⟨Below.refl _ _, fun _ _ _ h => h⟩
 ·
  exact Ext.refl W
def MT (B : Nat) (X : List Tst) (i : Nat) (W W' : World) : Prop := if i = 4 then SpT B X W W' else Ext W W'
theorem MT.ne {B i : Nat} {X : List Tst} {W W' : World} (h : i ≠ 4) (hR : MT B X i W W') : Ext W W' := by unfold MT at hR; rw [if_neg h] at hR; exact hR
theorem MT.of {B : Nat} {X : List Tst} {W W' : World} (h : SpT B X W W') : MT B X 4 W W' := by unfold MT; rw [if_pos rfl]; exact h
theorem MT.ext {B i : Nat} {X : List Tst} {W W' : World} (h : i ≠ 4) (hE : Ext W W') : MT B X i W W' := by unfold MT; rw [if_neg h]; exact hE
theorem MT.tr {B i : Nat} {X : List Tst} {W W' : World} (hR : MT B X i W W') {u : Value} {xs : List Tst} (hx : xs.length ≤ X.length ∨ xs = [tMark] ∨ xs = X ++ [tMark]) (h : Tr B W u xs) : Tr B W' u xs := by
 by_cases hi : i = 4
 ·
  unfold MT at hR; rw [if_pos hi] at hR; exact hR.2.1 u xs hx h
 ·
  exact h.ext (hR.ne hi)
theorem MT.sr {B i : Nat} {X : List Tst} {W W' : World} (hR : MT B X i W W') {u : Value} {xs : List (List UInt8)} (h : Sr B W u xs) : Sr B W' u xs := by
 by_cases hi : i = 4
 ·
  unfold MT at hR; rw [if_pos hi] at hR; exact hR.2.2 u xs h
 ·
  exact h.ext (hR.ne hi)
theorem MT.below {B i : Nat} {X : List Tst} {w W W' : World} (hB : Below B w W) (hs : B ≤ W.heap.size) (hR : MT B X i W W') : Below B w W' := by
 by_cases hi : i = 4
 ·
  unfold MT at hR; rw [if_pos hi] at hR; exact hB.trans hR.1
 ·
  exact hB.trans ((hR.ne hi).mono hs)
theorem MT.refl {B : Nat} {X : List Tst} (i : Nat) (W : World) : MT B X i W W := by
 unfold MT
 split
 ·
  exact ⟨Below.refl _ _, fun _ _ _ h => h, fun _ _ h => h⟩
 ·
  exact Ext.refl W
structure MS (w : World) (q : Qry) (A5 : Option Addr) (c5 : Nat) (A7 : Option Addr) (c7 : Nat) (V5 V7 : Value) (ts : List Tst) (W : World) : Prop where
 za : W.heap[w.heap.size]? = some (.cells #[.slice A5 q.cols.length c5, .string (strB q.tab), .slice A7 q.wh.length c7, .string (strB q.ord), .bool q.down, .int .i64 q.lim] 31 (0, 0))
 zr : W.heap[w.heap.size + 1]? = some (.cells #[.slice none 0 0, .string ⟨#[]⟩, .slice none 0 0, .string ⟨#[]⟩, .bool false, .int .i64 0] 25 (0, 0))
 zp : W.heap[w.heap.size + 1 + 1]? = some (.cells #[V5, .string (strB q.tab), V7, .string (strB q.ord), .bool q.down, .int .i64 q.lim] 25 (0, 0))
 s5 : ∃ b c, V5 = .slice (some ⟨b, 0, none⟩) q.cols.length c ∧ Sr (w.heap.size + 3) W (.slice (some ⟨b, 0, none⟩) (q.cols.length + 1) c) (q.cols ++ [wMark])
 s7 : Tr (w.heap.size + 3) W V7 ts
 bl : Below w.heap.size w W
 sz : w.heap.size + 3 ≤ W.heap.size
set_option maxRecDepth 100000 in
set_option maxHeartbeats 3200000 in
theorem mine_calls (q : Qry) (A5 : Option Addr) (c5 : Nat) (A7 : Option Addr) (c7 : Nat) (w : World) (h5 : Kd.C Kd.string w A5 q.cols.length (q.cols.map strB)) (hc5 : q.cols.length ≤ c5) (h7 : Kd.C k70 w A7 q.wh.length (q.wh.map t70)) (hc7 : q.wh.length ≤ c7) (hl5 : q.cols.length ≤ 2000000) (hl7 : q.wh.length ≤ 2000000) :
  Calls Tryz.prog 12 #[.agg #[.slice A5 q.cols.length c5, .string (strB q.tab), .slice A7 q.wh.length c7, .string (strB q.ord), .bool q.down, .int .i64 q.lim]] w fun e w' => ∃ v5 v7, e = .returned (qval q v5 v7) ∧ MinV w.heap.size w' q v5 v7 ∧ Below w.heap.size w w' := by
 go_enter Tryz.func12, Tryz.ntmps12
 go_upto_region 2 with fail
 obtain ⟨w2, hw2⟩ : ∃ W, W = (((w.alloc (.cells #[.slice A5 q.cols.length c5, .string (strB q.tab), .slice A7 q.wh.length c7, .string (strB q.ord), .bool q.down, .int .i64 q.lim] 31)).alloc (.cells #[.slice none 0 0, .string ⟨#[]⟩, .slice none 0 0, .string ⟨#[]⟩, .bool false, .int .i64 0] 25)).alloc (.cells #[.slice none 0 0, .string (strB q.tab), .slice none 0 0, .string (strB q.ord), .bool q.down, .int .i64 q.lim] 25)) := ⟨_, rfl⟩
 have hza : w2.heap[w.heap.size]? = some (.cells #[.slice A5 q.cols.length c5, .string (strB q.tab), .slice A7 q.wh.length c7, .string (strB q.ord), .bool q.down, .int .i64 q.lim] 31 (0, 0)) := by rw [hw2]; exact heap_alloc3_old _ _ _ _
 have hzr : w2.heap[w.heap.size + 1]? = some (.cells #[.slice none 0 0, .string ⟨#[]⟩, .slice none 0 0, .string ⟨#[]⟩, .bool false, .int .i64 0] 25 (0, 0)) := by rw [hw2]; exact heap_alloc3_mid _ _ _ _
 have hzp : w2.heap[w.heap.size + 1 + 1]? = some (.cells #[.slice none 0 0, .string (strB q.tab), .slice none 0 0, .string (strB q.ord), .bool q.down, .int .i64 q.lim] 25 (0, 0)) := by rw [hw2]; exact heap_alloc3_new _ _ _ _
 have hz2 : w2.heap.size = w.heap.size + 3 := by rw [hw2]; simp
 have hE2 : Ext w w2 := by rw [hw2]; exact (((Ext.refl w).alloc _).alloc _).alloc _
 rw [← hw2]
 clear hw2
 obtain ⟨B5, hB5⟩ : ∃ n, n = w2.heap.size := ⟨_, rfl⟩
 obtain ⟨ab, hab⟩ : ∃ n, n = w.heap.size := ⟨_, rfl⟩
 obtain ⟨rb, hrb⟩ : ∃ n, n = w.heap.size + 1 := ⟨_, rfl⟩
 obtain ⟨pb, hpb⟩ : ∃ n, n = w.heap.size + 1 + 1 := ⟨_, rfl⟩
 have hza' := hza
 rw [← hpb, ← hrb, ← hab]
 rw [← hab] at hza
 rw [← hrb] at hzr
 rw [← hpb] at hzp
 have hk : ∀ W, Below B5 w2 W → ∀ b o, b < B5 → w2.heap[b]? = some o → W.heap[b]? = some o := fun W hW b o hb ho => (hW.block b hb).trans ho
 have HZA : Aside0 (∀ W, Below B5 w2 W → W.heap[ab]? = some (.cells #[.slice A5 q.cols.length c5, .string (strB q.tab), .slice A7 q.wh.length c7, .string (strB q.ord), .bool q.down, .int .i64 q.lim] 31 (0, 0))) := ⟨fun W hW => hk W hW ab _ (by omega) hza⟩
 have HK5 : Aside0 (∀ W, Below B5 w2 W → Kd.C Kd.string W A5 q.cols.length (q.cols.map strB)) := ⟨fun W hW => Kd.C_below h5 (Below.trans hE2 (hW.mono (by omega)))⟩
 have HJ2 : Aside0 (Below B5 w2 w2.drew) := ⟨(Below.refl _ _).drew⟩
 have HK := Aside0.mk hk
 have HSZ : Aside0 (∀ W, Below B5 w2 W → B5 ≤ W.heap.size) := ⟨fun W hW => by have := hW.size; omega⟩
 have HZ := Aside0.mk (And.intro hza (And.intro hzr hzp))
 have HN := Aside0.mk (And.intro hB5 (And.intro hab (And.intro hrb (And.intro hpb hz2))))
 have HE2 := Aside0.mk hE2
 have H7 := Aside0.mk h7
 have H5 := Aside0.mk h5
 clear hk hza hzr hzp hz2 hE2 hB5 hab hrb hpb h7 h5 hza'
 refine exj_tail (Below B5 w2) (MR B5 q.cols) 12 [(0, 15), (1, 16), (2, 17), (3, 18), (4, 19), (5, 20), (6, 21), (7, 22), (8, 23), (9, 24), (10, 25)] [0, 1, 2, 3, 4, 5, 6, 7, 8, 9, 10] (fun i w v => match i with | 0 => ∃ b, v = .slice (some ⟨b, 0, none⟩) 0 0 ∧ Sr B5 w v [] | 1 => v = .pointer (some ⟨ab, 0, none⟩) | 2 => v = .slice A5 q.cols.length c5 | 3 => Sr B5 w v q.cols | 4 => Sr B5 w v [wMark] | 5 => Sr B5 w v (q.cols ++ [wMark]) | 6 => v = .pointer (some ⟨ab, 0, none⟩) | 7 => v = .slice A5 q.cols.length c5 | 8 => v = .int .i64 (q.cols.length : Nat) | 9 => ∃ b cp, v = .slice (some ⟨b, 0, none⟩) q.cols.length cp ∧ Sr B5 w (.slice (some ⟨b, 0, none⟩) (q.cols.length + 1) cp) (q.cols ++ [wMark]) | 10 => v = .pointer (some ⟨pb, 0, none⟩) | _ => True) (by kernel_rfl) (by kernel_rfl) (by rfl) rfl ?j2 ?rj2 ?r2 ?mono2 ?steps2 ?fin2
 case j2 => exact HJ2.out
 case rj2 =>
  intro i W W' hJ hR
  exact MR.below hJ (HSZ.out W hJ) hR
 case r2 => exact fun i W => MR.refl i W
 case mono2 =>
  intro i j w w' v hne h hR
  match j with
  | 0 => exact (by obtain ⟨b, h1, h2⟩ := h; exact ⟨b, h1, hR.sr (.inl (Nat.zero_le _)) h2⟩)
  | 1 => exact h
  | 2 => exact h
  | 3 => exact hR.sr (.inl (Nat.le_refl _)) h
  | 4 => exact hR.sr (.inr (.inl rfl)) h
  | 5 => exact Sr.ext h (hR.ne hne.symm)
  | 6 => exact h
  | 7 => exact h
  | 8 => exact h
  | 9 => exact (by obtain ⟨b, cp, h1, h2⟩ := h; exact ⟨b, cp, h1, by have := hR.sr (.inr (.inr rfl)) (show Sr B5 w (.slice (some ⟨b, 0, none⟩) (q.cols.length + 1) cp) (q.cols ++ [wMark]) from h2); exact this⟩)
  | 10 => exact h
  | _ + 11 => trivial
 case steps2 =>
  refine stepJ_cons ⟨_, rfl, fun a w hE hH => ?_⟩ ?_
  ·
   exact Or.inl ⟨(rfl), goodJ_new (.slice (some ⟨w.heap.size, 0, none⟩) 0 0) (w.alloc (.cells #[] 9)) (by simp [execOp, Act.eval, go_sem]) (MR.ext (by decide) ((Ext.refl w).alloc _)) ⟨_, rfl, Sr.lit (cs := #[]) (xs := []) (HSZ.out w hE) rfl (by simp)⟩⟩
  refine stepJ_cons ⟨_, rfl, fun a w hE hH => ?_⟩ ?_
  ·
   have e1 : a.tmps[1]? = some (.pointer (some ⟨ab, 0, none⟩)) := hH.old 1 rfl
   exact Or.inl ⟨rfl, goodJ_of (by funext W W'; simp [MR]) (goodE_val (.pointer (some ⟨ab, 0, none⟩)) (by simp [execOp, Act.eval, e1, go_sem]) rfl)⟩
  refine stepJ_cons ⟨_, rfl, fun a w hE hH => ?_⟩ ?_
  ·
   obtain ⟨v16, e16, g16⟩ := hH.dep 1 16 rfl (by kernel_rfl)
   have q16 : v16 = .pointer (some ⟨ab, 0, none⟩) := g16
   subst q16
   have hc : w.cell? ⟨ab, 0, none⟩ = some (.slice A5 q.cols.length c5) := blk_cell (HZA.out w hE) 0
   exact Or.inl ⟨(rfl), goodJ_of (by funext W W'; simp [MR]) (goodE_val (.slice A5 q.cols.length c5) (by simp [execOp, Act.eval, e16, hc, go_sem]) rfl)⟩
  refine stepJ_cons ⟨_, rfl, fun a w hE hH => ?_⟩ ?_
  ·
   obtain ⟨v15, e15, g15⟩ := hH.dep 0 15 rfl (by kernel_rfl)
   obtain ⟨v17, e17, g17⟩ := hH.dep 2 17 rfl (by kernel_rfl)
   have q17 : v17 = .slice A5 q.cols.length c5 := g17
   subst q17
   obtain ⟨b, rfl, hSr⟩ := g15
   obtain ⟨v1, w1, hr, hS1, hE1⟩ := sr_copy (c0 := c5) 22 hSr (HK5.out w hE) (HSZ.out w hE) (by omega)
   exact Or.inl ⟨(rfl), goodJ_new v1 w1 (exec_append (s := .tmp 15) (x := .tmp 17) rfl (by simpa [Act.eval, e15, e17] using hr)) (MR.ext (by decide) hE1) hS1⟩
  refine stepJ_cons ⟨_, rfl, fun a w hE hH => ?_⟩ ?_
  ·
   exact Or.inl ⟨(rfl), goodJ_new (.slice (some ⟨w.heap.size, 0, none⟩) 1 1) (w.alloc (.cells #[.string ⟨#[109, 97, 114, 107]⟩] 9)) (by simp [execOp, Act.eval, go_sem]) (MR.ext (by decide) ((Ext.refl w).alloc _)) (Sr.lit (cs := #[.string ⟨#[109, 97, 114, 107]⟩]) (xs := [wMark]) (HSZ.out w hE) rfl (by simp))⟩
  refine stepJ_cons ⟨_, rfl, fun a w hE hH => ?_⟩ ?_
  ·
   obtain ⟨v18, e18, g18⟩ := hH.dep 3 18 rfl (by kernel_rfl)
   obtain ⟨v19, e19, g19⟩ := hH.dep 4 19 rfl (by kernel_rfl)
   obtain ⟨v1, w1, hr, hS1, hM1⟩ := sr_mark 22 g18 g19 (HSZ.out w hE) (by omega)
   exact Or.inl ⟨(rfl), goodJ_new v1 w1 (exec_append (s := .tmp 18) (x := .tmp 19) rfl (by simpa [Act.eval, e18, e19] using hr)) (MR.of hM1) hS1⟩
  refine stepJ_cons ⟨_, rfl, fun a w hE hH => ?_⟩ ?_
  ·
   have e1 : a.tmps[1]? = some (.pointer (some ⟨ab, 0, none⟩)) := hH.old 1 rfl
   exact Or.inl ⟨rfl, goodJ_of (by funext W W'; simp [MR]) (goodE_val (.pointer (some ⟨ab, 0, none⟩)) (by simp [execOp, Act.eval, e1, go_sem]) rfl)⟩
  refine stepJ_cons ⟨_, rfl, fun a w hE hH => ?_⟩ ?_
  ·
   obtain ⟨v21, e21, g21⟩ := hH.dep 6 21 rfl (by kernel_rfl)
   have q21 : v21 = .pointer (some ⟨ab, 0, none⟩) := g21
   subst q21
   have hc : w.cell? ⟨ab, 0, none⟩ = some (.slice A5 q.cols.length c5) := blk_cell (HZA.out w hE) 0
   exact Or.inl ⟨(rfl), goodJ_of (by funext W W'; simp [MR]) (goodE_val (.slice A5 q.cols.length c5) (by simp [execOp, Act.eval, e21, hc, go_sem]) rfl)⟩
  refine stepJ_cons ⟨_, rfl, fun a w hE hH => ?_⟩ ?_
  ·
   obtain ⟨v22, e22, g22⟩ := hH.dep 7 22 rfl (by kernel_rfl)
   have q22 : v22 = .slice A5 q.cols.length c5 := g22
   subst q22
   exact Or.inl ⟨rfl, goodJ_of (by funext W W'; simp [MR]) (goodE_val (.int .i64 (q.cols.length : Nat)) (by simp [execOp, Act.eval, e22, go_sem]) rfl)⟩
  refine stepJ_cons ⟨_, rfl, fun a w hE hH => ?_⟩ ?_
  ·
   obtain ⟨v20, e20, g20⟩ := hH.dep 5 20 rfl (by kernel_rfl)
   obtain ⟨v23, e23, g23⟩ := hH.dep 8 23 rfl (by kernel_rfl)
   have q23 : v23 = .int .i64 (q.cols.length : Nat) := g23
   subst q23
   obtain ⟨b, cp, rfl, hcp, _⟩ := Sr.shape g20 (by simp)
   rw [show (q.cols ++ [wMark]).length = q.cols.length + 1 by simp] at g20 e20 hcp
   exact Or.inl ⟨(rfl), goodJ_new (.slice (some ⟨b, 0, none⟩) q.cols.length cp) w (exec_sliceT elem22 rfl (by simpa [Act.eval, e20, e23] using sr_cut (W := w) (some ⟨b, 0, none⟩) (q.cols.length + 1) cp q.cols.length (by omega))) (MR.refl _ _) ⟨b, cp, rfl, g20⟩⟩
  refine stepJ_cons ⟨_, rfl, fun a w hE hH => ?_⟩ ?_
  ·
   have e3 : a.tmps[3]? = some (.pointer (some ⟨pb, 0, none⟩)) := hH.old 3 rfl
   exact Or.inl ⟨rfl, goodJ_of (by funext W W'; simp [MR]) (goodE_val (.pointer (some ⟨pb, 0, none⟩)) (by simp [execOp, Act.eval, e3, go_sem]) rfl)⟩
  exact stepJ_nil
 refine ⟨⟨none, .store 22 (.tmp 25) (.tmp 24), _, _, _, none⟩, rfl, ?_⟩
 rintro vals wz hE hV
 have k24 : ∃ b cp, (vals 9) = .slice (some ⟨b, 0, none⟩) q.cols.length cp ∧ Sr B5 wz (.slice (some ⟨b, 0, none⟩) (q.cols.length + 1) cp) (q.cols ++ [wMark]) := hV 9 (by simp) rfl
 have k25 : vals 10 = .pointer (some ⟨pb, 0, none⟩) := hV 10 (by simp) rfl
 refine ⟨rfl, ?_⟩
 intro KK hKK
 simp only [List.map_cons, List.map_nil, putAll, Act.put, List.setIfInBounds_toArray, List.set_cons_zero, List.set_cons_succ, k25]
 obtain ⟨b5, cp5, hv9, hS5⟩ := k24
 obtain ⟨hB5, hab, hrb, hpb, hz2⟩ := HN.out
 have hza := HK.out wz hE ab _ (by omega) HZ.out.1
 have hzr := HK.out wz hE rb _ (by omega) HZ.out.2.1
 have hzp := HK.out wz hE pb _ (by omega) HZ.out.2.2
 have hbl : Below w.heap.size w wz := Below.trans HE2.out (hE.mono (by omega))
 have hc0 := blk_cell hzp 0
 have hf0 := blk_frozen hzp 0
 rw [hv9]
 refine finE_skip (w1 := wz.setCell ⟨pb, 0, none⟩ (.slice (some ⟨b5, 0, none⟩) q.cols.length cp5)) (by simp [execOp, Act.eval, hc0, hf0, go_sem]) (hKK _ _ ?_)
 have hS : MS w q A5 c5 A7 c7 (.slice (some ⟨b5, 0, none⟩) q.cols.length cp5) (.slice none 0 0) [] (wz.setCell ⟨pb, 0, none⟩ (.slice (some ⟨b5, 0, none⟩) q.cols.length cp5)) := by
  refine ⟨?_, ?_, ?_, ⟨b5, cp5, rfl, ?_⟩, World.ownsRow_nil _ _ _ _, hbl.setCell (by show w.heap.size ≤ pb; omega) _, by simp; have := hE.size; omega⟩
  ·
   rw [← hab]; exact blk_far hza (by show ab ≠ pb; omega) _
  ·
   rw [← hrb]; exact blk_far hzr (by show rb ≠ pb; omega) _
  ·
   have e1 : w.heap.size + 1 + 1 = pb := by omega
   rw [e1]
   have := blk_set hzp 0 (.slice (some ⟨b5, 0, none⟩) q.cols.length cp5)
   simpa using this
  ·
   have e2 : w.heap.size + 3 = B5 := by omega
   rw [e2]
   exact Sr.far hS5 (by omega)
 generalize (wz.setCell ⟨pb, 0, none⟩ (.slice (some ⟨b5, 0, none⟩) q.cols.length cp5)) = w4 at hS ⊢
 obtain ⟨V5, hV5⟩ : ∃ v, v = Value.slice (some ⟨b5, 0, none⟩) q.cols.length cp5 := ⟨_, rfl⟩
 rw [← hV5] at hS
 have hq7 := blk_cell hS.za 2
 have HS := Aside0.mk hS
 have HPB := Aside0.mk hpb
 have HAB := Aside0.mk hab
 have HRB := Aside0.mk hrb
 clear hKK hv9 hS5 hza hzr hzp hbl hc0 hf0 hE hV k25 hS hB5 hab hrb hpb hz2 hV5 HZA HK5 HJ2 HK HSZ HZ HN
 have hb0 : ab = w.heap.size := HAB.out
 subst hb0
 have hb1 : rb = w.heap.size + 1 := HRB.out
 subst hb1
 have hb2 : pb = w.heap.size + 1 + 1 := HPB.out
 subst hb2
 clear HAB HRB HPB
 go_wp2_with fail
 go_loopw [29] (fun s29 W => ∃ (j : Nat) (V7 : Value), j ≤ q.wh.length ∧ s29 = .int .i64 j ∧ MS w q A5 c5 A7 c7 V5 V7 (q.wh.take j) W) (fun v _ => q.wh.length - (intOf v).toNat)
 case atStart => exact ⟨0, .slice none 0 0, by omega, rfl, HS.out⟩
 case round =>
 clear HS hq7
 obtain ⟨wo, hwo⟩ : ∃ wo : World, wo = wr := ⟨_, rfl⟩
 subst hwo
 obtain ⟨j, V7, hj, rfl, hS⟩ := hrel
 have HS := Aside0.mk hS
 by_cases hlt : j < q.wh.length
 ·
  have hb : (j : Int) < q.wh.length := by omega
  obtain ⟨t, ht⟩ : ∃ t, t = q.wh[j] := ⟨_, rfl⟩
  obtain ⟨ad, hA, d1, d2, d3⟩ := at_T70 H7.out (j : Int) (by omega) hb
  rw [rd70 _ _ hlt, ← ht] at d1 d2 d3
  simp only [t70, Int.toNat_natCast] at d1 d2 d3
  have hblk := World.block_lt_of_cell? w _ d1
  have hcell : ∀ p : Addr, p.block < w.heap.size → wo.cell? p = w.cell? p := fun p hp => hS.bl.cell hp
  have f1 := (hcell _ hblk).trans d1
  have f2 := (hcell ⟨_, _, none⟩ hblk).trans d2
  have f3 := (hcell ⟨_, _, none⟩ hblk).trans d3
  have hp2 := blk_cell hS.zp 2
  have hf2 := blk_frozen hS.zp 2
  have hsz := hS.sz
  have HT := Aside0.mk ht
  clear hS d1 d2 d3 ht hcell
  subst hA
  have htl : (q.wh.take j).length = j := by rw [List.length_take]; omega
  have HTL := Aside0.mk htl
  clear htl
  go_upto_region 6 with fail
  obtain ⟨wt, hwt⟩ : ∃ W, W = wo.alloc (.cells #[.string (strB t.col), .int .i64 t.op, .string (strB t.val)] 70) := ⟨_, rfl⟩
  have hE1 : Ext wo wt := by rw [hwt]; exact (Ext.refl _).alloc _
  have hzt : wt.heap[wo.heap.size]? = some (.cells #[.string (strB t.col), .int .i64 t.op, .string (strB t.val)] 70 (0, 0)) := by rw [hwt]; exact heap_alloc_new _ _
  obtain ⟨tb, htb⟩ : ∃ n, n = wo.heap.size := ⟨_, rfl⟩
  rw [← htb] at hzt
  rw [← hwt, ← htb]
  have hzp1 := heap_below HS.out.zp hE1
  have x0 := blk_cell hzt 0
  have x1 := blk_cell hzt 1
  have x2 := blk_cell hzt 2
  have p2 := blk_cell hzp1 2
  have HE1 := Aside0.mk hE1
  have HZP := Aside0.mk hzp1
  clear hwt hE1 hzt htb hzp1 hp2 hf2 f1 f2 f3 hblk hb
  go_wp2_with (at_builtin; go_loud (refine tr_app (W := wt) (w.heap.size + 3) rfl _ _ rfl V7 (q.wh.take j) t ?sy ?sx rfl ?s1 ?s2 ?s3 ?_); (case sy => simp [Act.eval]); (case sx => simp [Act.eval]); (case s1 => exact HS.out.s7.ext HE1.out); (case s2 => have := HE1.out.size; omega); (case s3 => rw [HTL.out]; omega); intro v1 w1 hT1 hB1 hG1; obtain ⟨A1, cp1, ev1, hcp1⟩ := own_form hT1; rw [show (q.wh.take j ++ [t]).length = j + 1 by rw [List.length_append, HTL.out]; rfl] at ev1; subst ev1; have hzp1 := (hB1.block (w.heap.size + 1 + 1) (by omega)).trans HZP.out; have hc1 := blk_cell hzp1 2; have hf1 := blk_frozen hzp1 2; have HT1 := Aside0.mk hT1; have HB1 := Aside0.mk hB1; have HG1 := Aside0.mk hG1; have HP1 := Aside0.mk hzp1; clear hT1 hB1 hG1 hzp1)
  have hE1 := HE1.out
  go_roundw
  case rel =>
   refine ⟨j + 1, .slice A1 (j + 1) cp1, by omega, by go_num, ?_⟩
   have hS := HS.out
   obtain ⟨b0, cc0, hv5, hs5⟩ := hS.s5
   refine ⟨blk_far ((HB1.out.block _ (by omega)).trans (heap_below hS.za hE1)) (by show w.heap.size ≠ w.heap.size + 1 + 1; omega) _, blk_far ((HB1.out.block _ (by omega)).trans (heap_below hS.zr hE1)) (by show w.heap.size + 1 ≠ w.heap.size + 1 + 1; omega) _, ?_, ⟨b0, cc0, hv5, Sr.far ((hs5.ext hE1).grown_tr (hS.s7.ext hE1) HG1.out) (by omega)⟩, ?_, ?_, ?_⟩
   ·
    have := blk_set HP1.out 2 (.slice A1 (j + 1) cp1)
    simpa using this
   ·
    have h1 : q.wh.take (j + 1) = q.wh.take j ++ [t] := by rw [HT.out, List.take_succ_eq_append_getElem hlt]
    rw [h1]
    exact Tr.far HT1.out (by omega)
   ·
    exact (Below.trans (Below.trans hS.bl (Below.mono hE1 hS.bl.size)) (HB1.out.mono (by omega))).setCell (by show w.heap.size ≤ w.heap.size + 1 + 1; omega) _
   ·
    have h1 := HB1.out.size
    have h2 := hE1.size
    simp
    omega
  case measure => simp [intOf]; omega
 ·
  obtain rfl : j = q.wh.length := by omega
  have hb : ¬ ((q.wh.length : Int) < q.wh.length) := by omega
  rw [List.take_length] at HS
  have hS := HS.out
  obtain ⟨b0, cc0, hv5, hs5⟩ := hS.s5
  obtain ⟨w0, hw0⟩ : ∃ W, W = w := ⟨_, rfl⟩
  obtain ⟨B5, hB5⟩ : ∃ n, n = w.heap.size + 3 := ⟨_, rfl⟩
  rw [← hB5] at hs5
  have HSZ : Aside0 (∀ W, Below B5 wo W → B5 ≤ W.heap.size) := ⟨fun W hW => by have := hW.size; have := HS.out.sz; omega⟩
  have HZA : Aside0 (∀ W, Below B5 wo W → W.heap[w0.heap.size]? = some (.cells #[.slice A5 q.cols.length c5, .string (strB q.tab), .slice A7 q.wh.length c7, .string (strB q.ord), .bool q.down, .int .i64 q.lim] 31 (0, 0))) := ⟨fun W hW => by rw [hw0]; exact (hW.block _ (by omega)).trans HS.out.za⟩
  have HZP : Aside0 (∀ W, Below B5 wo W → W.heap[w0.heap.size + 1 + 1]? = some (.cells #[V5, .string (strB q.tab), V7, .string (strB q.ord), .bool q.down, .int .i64 q.lim] 25 (0, 0))) := ⟨fun W hW => by rw [hw0]; exact (hW.block _ (by omega)).trans HS.out.zp⟩
  have HZR : Aside0 (∀ W, Below B5 wo W → W.heap[w0.heap.size + 1]? = some (.cells #[.slice none 0 0, .string ⟨#[]⟩, .slice none 0 0, .string ⟨#[]⟩, .bool false, .int .i64 0] 25 (0, 0))) := ⟨fun W hW => by rw [hw0]; exact (hW.block _ (by omega)).trans HS.out.zr⟩
  have HJ8 : Aside0 (Below B5 wo wo.drew ∧ Tr B5 wo.drew V7 q.wh ∧ Sr B5 wo.drew (.slice (some ⟨b0, 0, none⟩) (q.cols.length + 1) cc0) (q.cols ++ [wMark])) := ⟨⟨(Below.refl _ _).drew, by rw [hB5]; exact hS.s7.ext (Ext.to_drew _), hs5.ext (Ext.to_drew _)⟩⟩
  have HV5 := Aside0.mk hv5
  have HB5 := Aside0.mk hB5
  have HW0 := Aside0.mk hw0
  clear hs5 hv5 hS
  go_upto_region 8 with fail
  rw [← hw0]
  clear hw0 hB5 hb
  refine exj_tail (fun W => Below B5 wo W ∧ Tr B5 W V7 q.wh ∧ Sr B5 W (.slice (some ⟨b0, 0, none⟩) (q.cols.length + 1) cc0) (q.cols ++ [wMark])) (MT B5 q.wh) 11 [(0, 46), (1, 47), (2, 48), (3, 49), (4, 50), (5, 51), (6, 52), (7, 53), (8, 54), (9, 55)] [0, 1, 2, 3, 4, 5, 6, 7, 8, 9] (fun i w v => match i with | 0 => v = .pointer (some ⟨w0.heap.size + 1 + 1, 2, none⟩) | 1 => v = V7 | 2 => v = .agg #[.string ⟨#[]⟩, .int .i64 77, .string ⟨#[]⟩] | 3 => Tr B5 w v [tMark] | 4 => Tr B5 w v (q.wh ++ [tMark]) | 5 => v = .pointer (some ⟨w0.heap.size, 2, none⟩) | 6 => v = .slice A7 q.wh.length c7 | 7 => v = .int .i64 (q.wh.length : Nat) | 8 => ∃ b cp, v = .slice (some ⟨b, 0, none⟩) q.wh.length cp ∧ Tr B5 w (.slice (some ⟨b, 0, none⟩) (q.wh.length + 1) cp) (q.wh ++ [tMark]) | 9 => v = .pointer (some ⟨w0.heap.size + 1 + 1, 2, none⟩) | _ => True) (by kernel_rfl) (by kernel_rfl) (by rfl) rfl ?j8 ?rj8 ?r8 ?mono8 ?steps8 ?fin8
  case j8 => exact HJ8.out
  case rj8 =>
   intro i W W' hJ hR
   exact ⟨MT.below hJ.1 (HSZ.out W hJ.1) hR, hR.tr (.inl (Nat.le_refl _)) hJ.2.1, hR.sr hJ.2.2⟩
  case r8 => exact fun i W => MT.refl i W
  case mono8 =>
   intro i j w w' v hne h hR
   match j with
   | 0 => exact h
   | 1 => exact h
   | 2 => exact h
   | 3 => exact hR.tr (.inr (.inl rfl)) h
   | 4 => exact hR.tr (.inr (.inr rfl)) h
   | 5 => exact h
   | 6 => exact h
   | 7 => exact h
   | 8 => exact (by obtain ⟨b, cp, h1, h2⟩ := h; exact ⟨b, cp, h1, by have := hR.tr (.inr (.inr rfl)) (show Tr B5 w (.slice (some ⟨b, 0, none⟩) (q.wh.length + 1) cp) (q.wh ++ [tMark]) from h2); exact this⟩)
   | 9 => exact h
   | _ + 10 => trivial
  case steps8 =>
   refine stepJ_cons ⟨_, rfl, fun a w hE hH => ?_⟩ ?_
   ·
    have e3 : a.tmps[3]? = some (.pointer (some ⟨w0.heap.size + 1 + 1, 0, none⟩)) := hH.old 3 rfl
    exact Or.inl ⟨rfl, goodJ_of (by funext W W'; simp [MT]) (goodE_val (.pointer (some ⟨w0.heap.size + 1 + 1, 2, none⟩)) (by simp [execOp, Act.eval, e3, go_sem]) rfl)⟩
   refine stepJ_cons ⟨_, rfl, fun a w hE hH => ?_⟩ ?_
   ·
    obtain ⟨v46, e46, g46⟩ := hH.dep 0 46 rfl (by kernel_rfl)
    have q46 : v46 = .pointer (some ⟨w0.heap.size + 1 + 1, 2, none⟩) := g46
    subst q46
    have hc : w.cell? ⟨w0.heap.size + 1 + 1, 2, none⟩ = some V7 := blk_cell (HZP.out w hE.1) 2
    exact Or.inl ⟨(rfl), goodJ_of (by funext W W'; simp [MT]) (goodE_val V7 (by simp [execOp, Act.eval, e46, hc, go_sem]) rfl)⟩
   refine stepJ_cons ⟨_, rfl, fun a w hE hH => ?_⟩ ?_
   ·
    exact Or.inl ⟨(rfl), goodJ_of (by funext W W'; simp [MT]) (goodE_val (.agg #[.string ⟨#[]⟩, .int .i64 77, .string ⟨#[]⟩]) (by simp [execOp, Act.eval, go_sem]) rfl)⟩
   refine stepJ_cons ⟨_, rfl, fun a w hE hH => ?_⟩ ?_
   ·
    obtain ⟨v48, e48, g48⟩ := hH.dep 2 48 rfl (by kernel_rfl)
    have q48 : v48 = .agg #[.string ⟨#[]⟩, .int .i64 77, .string ⟨#[]⟩] := g48
    subst q48
    exact Or.inl ⟨(rfl), goodJ_new (.slice (some ⟨w.heap.size, 0, none⟩) 1 1) (w.alloc (.cells #[.string ⟨#[]⟩, .int .i64 77, .string ⟨#[]⟩] 37)) (by simp [execOp, Act.eval, e48, go_sem]) (MT.ext (by decide) ((Ext.refl w).alloc _)) (World.ownsRow_lit (base := B5) (e := 37) (size := 3) w #[.string ⟨#[]⟩, .int .i64 77, .string ⟨#[]⟩] 1 (HSZ.out w hE.1) (by simp [maxLen]) rfl)⟩
   refine stepJ_cons ⟨_, rfl, fun a w hE hH => ?_⟩ ?_
   ·
    obtain ⟨v47, e47, g47⟩ := hH.dep 1 47 rfl (by kernel_rfl)
    have q47 : v47 = V7 := g47
    subst q47
    obtain ⟨v49, e49, g49⟩ := hH.dep 3 49 rfl (by kernel_rfl)
    obtain ⟨v1, w1, hr, hS1, hM1⟩ := tr_mark 23 (hE.2.1) g49 (HSZ.out w hE.1) (by omega)
    exact Or.inl ⟨(rfl), goodJ_new v1 w1 (exec_append (s := .tmp 47) (x := .tmp 49) rfl (by simpa [Act.eval, e47, e49] using hr)) (MT.of hM1) hS1⟩
   refine stepJ_cons ⟨_, rfl, fun a w hE hH => ?_⟩ ?_
   ·
    have e1 : a.tmps[1]? = some (.pointer (some ⟨w0.heap.size, 0, none⟩)) := hH.old 1 rfl
    exact Or.inl ⟨rfl, goodJ_of (by funext W W'; simp [MT]) (goodE_val (.pointer (some ⟨w0.heap.size, 2, none⟩)) (by simp [execOp, Act.eval, e1, go_sem]) rfl)⟩
   refine stepJ_cons ⟨_, rfl, fun a w hE hH => ?_⟩ ?_
   ·
    obtain ⟨v51, e51, g51⟩ := hH.dep 5 51 rfl (by kernel_rfl)
    have q51 : v51 = .pointer (some ⟨w0.heap.size, 2, none⟩) := g51
    subst q51
    have hc : w.cell? ⟨w0.heap.size, 2, none⟩ = some (.slice A7 q.wh.length c7) := blk_cell (HZA.out w hE.1) 2
    exact Or.inl ⟨(rfl), goodJ_of (by funext W W'; simp [MT]) (goodE_val (.slice A7 q.wh.length c7) (by simp [execOp, Act.eval, e51, hc, go_sem]) rfl)⟩
   refine stepJ_cons ⟨_, rfl, fun a w hE hH => ?_⟩ ?_
   ·
    obtain ⟨v52, e52, g52⟩ := hH.dep 6 52 rfl (by kernel_rfl)
    have q52 : v52 = .slice A7 q.wh.length c7 := g52
    subst q52
    exact Or.inl ⟨rfl, goodJ_of (by funext W W'; simp [MT]) (goodE_val (.int .i64 (q.wh.length : Nat)) (by simp [execOp, Act.eval, e52, go_sem]) rfl)⟩
   refine stepJ_cons ⟨_, rfl, fun a w hE hH => ?_⟩ ?_
   ·
    obtain ⟨v50, e50, g50⟩ := hH.dep 4 50 rfl (by kernel_rfl)
    obtain ⟨v53, e53, g53⟩ := hH.dep 7 53 rfl (by kernel_rfl)
    have q53 : v53 = .int .i64 (q.wh.length : Nat) := g53
    subst q53
    obtain ⟨b, cp, rfl, hcp⟩ := Tr.form g50 (by simp)
    rw [show (q.wh ++ [tMark]).length = q.wh.length + 1 by simp] at g50 e50 hcp
    exact Or.inl ⟨(rfl), goodJ_new (.slice (some ⟨b, 0, none⟩) q.wh.length cp) w (exec_sliceT elem23 rfl (by simpa [Act.eval, e50, e53] using tr_cut (W := w) (some ⟨b, 0, none⟩) (q.wh.length + 1) cp q.wh.length (by omega))) (MT.refl _ _) ⟨b, cp, rfl, g50⟩⟩
   refine stepJ_cons ⟨_, rfl, fun a w hE hH => ?_⟩ ?_
   ·
    have e3 : a.tmps[3]? = some (.pointer (some ⟨w0.heap.size + 1 + 1, 0, none⟩)) := hH.old 3 rfl
    exact Or.inl ⟨rfl, goodJ_of (by funext W W'; simp [MT]) (goodE_val (.pointer (some ⟨w0.heap.size + 1 + 1, 2, none⟩)) (by simp [execOp, Act.eval, e3, go_sem]) rfl)⟩
   exact stepJ_nil
  refine ⟨⟨none, .store 23 (.tmp 55) (.tmp 54), _, _, _, none⟩, rfl, ?_⟩
  rintro vals wz hE hV
  have k54 : ∃ b cp, (vals 8) = .slice (some ⟨b, 0, none⟩) q.wh.length cp ∧ Tr B5 wz (.slice (some ⟨b, 0, none⟩) (q.wh.length + 1) cp) (q.wh ++ [tMark]) := hV 8 (by simp) rfl
  have k55 : vals 9 = .pointer (some ⟨w0.heap.size + 1 + 1, 2, none⟩) := hV 9 (by simp) rfl
  refine ⟨rfl, ?_⟩
  intro KK hKK
  simp only [List.map_cons, List.map_nil, putAll, Act.put, List.setIfInBounds_toArray, List.set_cons_zero, List.set_cons_succ, k55]
  obtain ⟨b7, cp7, hv8, hS7⟩ := k54
  have hzp := HZP.out wz hE.1
  have hzr := HZR.out wz hE.1
  have hw := HW0.out
  have hB := HB5.out
  have hwz : w0.heap.size + 3 ≤ wz.heap.size := by have := HSZ.out wz hE.1; rw [hw]; omega
  have hc0 := blk_cell hzp 2
  have hf0 := blk_frozen hzp 2
  rw [hv8]
  refine finE_skip (w1 := wz.setCell ⟨w0.heap.size + 1 + 1, 2, none⟩ (.slice (some ⟨b7, 0, none⟩) q.wh.length cp7)) (by simp [execOp, Act.eval, hc0, hf0, go_sem]) (hKK _ _ ?_)
  have z1 : (wz.setCell ⟨w0.heap.size + 1 + 1, 2, none⟩ (.slice (some ⟨b7, 0, none⟩) q.wh.length cp7)).heap[w0.heap.size + 1 + 1]? = some (.cells #[.slice (some ⟨b0, 0, none⟩) q.cols.length cc0, .string (strB q.tab), .slice (some ⟨b7, 0, none⟩) q.wh.length cp7, .string (strB q.ord), .bool q.down, .int .i64 q.lim] 25 (0, 0)) := by
   have := blk_set hzp 2 (.slice (some ⟨b7, 0, none⟩) q.wh.length cp7)
   rw [HV5.out] at this
   simpa using this
  have z2 := blk_far hzr (p := ⟨w0.heap.size + 1 + 1, 2, none⟩) (by show w0.heap.size + 1 ≠ w0.heap.size + 1 + 1; omega) (.slice (some ⟨b7, 0, none⟩) q.wh.length cp7)
  have z5 := Sr.far (k := 2) (u := .slice (some ⟨b7, 0, none⟩) q.wh.length cp7) hE.2.2 (show w0.heap.size + 1 + 1 < B5 by rw [hw]; omega)
  have z7 := Tr.far (k := 2) (u := .slice (some ⟨b7, 0, none⟩) q.wh.length cp7) hS7 (show w0.heap.size + 1 + 1 < B5 by rw [hw]; omega)
  have zb : Below w.heap.size w (wz.setCell ⟨w0.heap.size + 1 + 1, 2, none⟩ (.slice (some ⟨b7, 0, none⟩) q.wh.length cp7)) := (Below.trans HS.out.bl (hE.1.mono (by omega))).setCell (by show w.heap.size ≤ w0.heap.size + 1 + 1; rw [hw]; omega) _
  generalize (wz.setCell ⟨w0.heap.size + 1 + 1, 2, none⟩ (.slice (some ⟨b7, 0, none⟩) q.wh.length cp7)) = w9 at z1 z2 z5 z7 zb ⊢
  have x0 := blk_cell z1 0
  have x1 := blk_cell z1 1
  have x2 := blk_cell z1 2
  have x3 := blk_cell z1 3
  have x4 := blk_cell z1 4
  have x5 := blk_cell z1 5
  have y0 := blk_cell z2 0
  have y1 := blk_cell z2 1
  have y2 := blk_cell z2 2
  have y3 := blk_cell z2 3
  have y4 := blk_cell z2 4
  have y5 := blk_cell z2 5
  have g0 := blk_frozen z2
  have Z5 := Aside0.mk z5
  have Z7 := Aside0.mk z7
  have ZB := Aside0.mk zb
  have ZR := Aside0.mk z2
  have HW := Aside0.mk hw
  clear hKK hv8 hS7 hzp hzr hwz hc0 hf0 hE hV k55 z5 z7 zb hw hB z1 z2
  go_wp2_with fail
  obtain ⟨rb, hrb⟩ : ∃ n, n = w0.heap.size + 1 := ⟨_, rfl⟩
  have hrB : rb < B5 := by have h1 := HW.out; have h2 := HB5.out; rw [hrb, h1]; omega
  have hrw : w.heap.size ≤ rb := by have h1 := HW.out; rw [hrb, h1]; omega
  have hF := blk_set (blk_set (blk_set (blk_set (blk_set (blk_set ZR.out 0 (.slice (some ⟨b0, 0, none⟩) q.cols.length cc0)) 1 (.string (strB q.tab))) 2 (.slice (some ⟨b7, 0, none⟩) q.wh.length cp7)) 3 (.string (strB q.ord))) 4 (.bool q.down)) 5 (.int .i64 q.lim)
  have hS5 := Sr.far (k := 5) (u := .int .i64 q.lim) (Sr.far (k := 4) (u := .bool q.down) (Sr.far (k := 3) (u := .string (strB q.ord)) (Sr.far (k := 2) (u := .slice (some ⟨b7, 0, none⟩) q.wh.length cp7) (Sr.far (k := 1) (u := .string (strB q.tab)) (Sr.far (k := 0) (u := .slice (some ⟨b0, 0, none⟩) q.cols.length cc0) Z5.out hrB) hrB) hrB) hrB) hrB) hrB
  have hT7 := Tr.far (k := 5) (u := .int .i64 q.lim) (Tr.far (k := 4) (u := .bool q.down) (Tr.far (k := 3) (u := .string (strB q.ord)) (Tr.far (k := 2) (u := .slice (some ⟨b7, 0, none⟩) q.wh.length cp7) (Tr.far (k := 1) (u := .string (strB q.tab)) (Tr.far (k := 0) (u := .slice (some ⟨b0, 0, none⟩) q.cols.length cc0) Z7.out hrB) hrB) hrB) hrB) hrB) hrB
  have hBF := (((((ZB.out.setCell (p := ⟨rb, 0, none⟩) hrw (.slice (some ⟨b0, 0, none⟩) q.cols.length cc0)).setCell (p := ⟨rb, 1, none⟩) hrw (.string (strB q.tab))).setCell (p := ⟨rb, 2, none⟩) hrw (.slice (some ⟨b7, 0, none⟩) q.wh.length cp7)).setCell (p := ⟨rb, 3, none⟩) hrw (.string (strB q.ord))).setCell (p := ⟨rb, 4, none⟩) hrw (.bool q.down)).setCell (p := ⟨rb, 5, none⟩) hrw (.int .i64 q.lim)
  rw [← hrb] at hF ⊢
  generalize (((((w9.setCell ⟨rb, 0, none⟩ (.slice (some ⟨b0, 0, none⟩) q.cols.length cc0)).setCell ⟨rb, 1, none⟩ (.string (strB q.tab))).setCell ⟨rb, 2, none⟩ (.slice (some ⟨b7, 0, none⟩) q.wh.length cp7)).setCell ⟨rb, 3, none⟩ (.string (strB q.ord))).setCell ⟨rb, 4, none⟩ (.bool q.down)).setCell ⟨rb, 5, none⟩ (.int .i64 q.lim) = wf at hF hS5 hT7 hBF ⊢
  have hF2 : wf.heap[rb]? = some (.cells #[.slice (some ⟨b0, 0, none⟩) q.cols.length cc0, .string (strB q.tab), .slice (some ⟨b7, 0, none⟩) q.wh.length cp7, .string (strB q.ord), .bool q.down, .int .i64 q.lim] 25 (0, 0)) := by simpa using hF
  have u0 := blk_cell hF2 0
  have u1 := blk_cell hF2 1
  have u2 := blk_cell hF2 2
  have u3 := blk_cell hF2 3
  have u4 := blk_cell hF2 4
  have u5 := blk_cell hF2 5
  have hw : B5 = w.heap.size + 3 := HB5.out
  refine bodyPost_ret (v := qval q (.slice (some ⟨b0, 0, none⟩) q.cols.length cc0) (.slice (some ⟨b7, 0, none⟩) q.wh.length cp7)) (by simp [results, Tryz.results12, go_sem, u0, u1, u2, u3, u4, u5, qval]) rfl ⟨_, _, rfl, ⟨⟨b0, cc0, rfl, own_less hS5 (by omega)⟩, ⟨b7, cp7, rfl, own_less hT7 (by omega)⟩⟩, hBF⟩
end Go.Proofs.YthhemephaabblaaGreatDoor.Hq
namespace Go.Proofs.YthhemephaabblaaGreatDoor.Hq
open Go.RowKit Go.Proofs.YthhemephaabblaaGreatDoorW.PrintWords Go.Proofs.YthhemephaabblaaGreatDoorW.PrintLast Go.Proofs.YthhemephaabblaaGreatDoorW.PrintMore Go.Proofs.YthhemephaabblaaGreatDoor Go.Proofs.YthhemephaabblaaGreatDoor.Q Go.Proofs.YthhemephaabblaaGreatDoor.R
set_option linter.unusedVariables false
set_option linter.unusedSimpArgs false
set_option maxRecDepth 100000 in
set_option maxHeartbeats 3200000 in
theorem same_calls (q : Qry) (A5 : Option Addr) (c5 : Nat) (A7 : Option Addr) (c7 : Nat) (B5 : Option Addr) (d5 : Nat) (B7 : Option Addr) (d7 : Nat) (w : World) (h5 : Kd.C Kd.string w A5 q.cols.length (q.cols.map strB)) (hc5 : q.cols.length ≤ c5) (h7 : Kd.C k37 w A7 q.wh.length (q.wh.map t37)) (hc7 : q.wh.length ≤ c7)
  (g5 : Kd.C Kd.string w B5 q.cols.length (q.cols.map strB)) (hd5 : q.cols.length ≤ d5) (g7 : Kd.C k70 w B7 q.wh.length (q.wh.map t70)) (hd7 : q.wh.length ≤ d7) (hl5 : q.cols.length ≤ 1000000000000) (hl7 : q.wh.length ≤ 1000000000000) :
  Calls Tryz.prog 10 #[qval q (.slice A5 q.cols.length c5) (.slice A7 q.wh.length c7), qval q (.slice B5 q.cols.length d5) (.slice B7 q.wh.length d7)] w fun e w' => e = .returned (.bool true) ∧ Ext w w' := by
 unfold qval
 have H5 := Aside0.mk h5
 have H7 := Aside0.mk h7
 have G5 := Aside0.mk g5
 have G7 := Aside0.mk g7
 clear h5 h7 g5 g7
 go_enter Tryz.func10, Tryz.ntmps10
 go_upto_region 1 with fail
 obtain ⟨w2, hw2⟩ : ∃ W, W = ((w.alloc (.cells #[.slice A5 q.cols.length c5, .string (strB q.tab), .slice A7 q.wh.length c7, .string (strB q.ord), .bool q.down, .int .i64 q.lim] 25)).alloc (.cells #[.slice B5 q.cols.length d5, .string (strB q.tab), .slice B7 q.wh.length d7, .string (strB q.ord), .bool q.down, .int .i64 q.lim] 31)) := ⟨_, rfl⟩
 have hzp : w2.heap[w.heap.size]? = some (.cells #[.slice A5 q.cols.length c5, .string (strB q.tab), .slice A7 q.wh.length c7, .string (strB q.ord), .bool q.down, .int .i64 q.lim] 25 (0, 0)) := by rw [hw2]; exact (Array.getElem?_push_lt (by simp)).trans (by simpa using heap_alloc_new w _)
 have hzq : w2.heap[w.heap.size + 1]? = some (.cells #[.slice B5 q.cols.length d5, .string (strB q.tab), .slice B7 q.wh.length d7, .string (strB q.ord), .bool q.down, .int .i64 q.lim] 31 (0, 0)) := by rw [hw2]; have := heap_alloc_new (w.alloc (.cells #[.slice A5 q.cols.length c5, .string (strB q.tab), .slice A7 q.wh.length c7, .string (strB q.ord), .bool q.down, .int .i64 q.lim] 25)) (.cells #[.slice B5 q.cols.length d5, .string (strB q.tab), .slice B7 q.wh.length d7, .string (strB q.ord), .bool q.down, .int .i64 q.lim] 31); simpa using this
 have hE2 : Ext w w2 := by rw [hw2]; exact ((Ext.refl w).alloc _).alloc _
 rw [← hw2]
 obtain ⟨pb, hpb⟩ : ∃ n, n = w.heap.size := ⟨_, rfl⟩
 obtain ⟨qb, hqb⟩ : ∃ n, n = w.heap.size + 1 := ⟨_, rfl⟩
 rw [← hqb, ← hpb]
 rw [← hpb] at hzp
 rw [← hqb] at hzq
 have HE2 := Aside0.mk hE2
 have HZP := Aside0.mk hzp
 have HZQ := Aside0.mk hzq
 have z0 := blk_cell hzp 0
 have y0 := blk_cell hzq 0
 have z1 := blk_cell hzp 1
 have y1 := blk_cell hzq 1
 have z2 := blk_cell hzp 2
 have y2 := blk_cell hzq 2
 have z3 := blk_cell hzp 3
 have y3 := blk_cell hzq 3
 have z4 := blk_cell hzp 4
 have y4 := blk_cell hzq 4
 have z5 := blk_cell hzp 5
 have y5 := blk_cell hzq 5
 clear hw2 hpb hqb hzp hzq hE2
 go_wp2_with fail
 go_loopw [55] (fun s55 W => ∃ j : Nat, j ≤ q.cols.length ∧ s55 = .int .i64 j ∧ Ext w2 W) (fun v _ => q.cols.length - (intOf v).toNat)
 case atStart => exact ⟨0, by omega, rfl, Ext.refl _⟩
 case round =>
 clear z0 z1 z2 z3 z4 z5 y0 y1 y2 y3 y4 y5
 obtain ⟨wo, hwo⟩ : ∃ wo : World, wo = wr := ⟨_, rfl⟩
 subst hwo
 obtain ⟨j, hj, rfl, hX⟩ := hrel
 have HX := Aside0.mk hX
 have HXX := Aside0.mk (HE2.out.trans hX)
 clear hX
 by_cases hlt : j < q.cols.length
 ·
  have hb : (j : Int) < q.cols.length := by omega
  obtain ⟨_, a5, o5, rfl, _, hcell⟩ := strC_cells (Kd.C_below H5.out HXX.out) (by omega)
  obtain ⟨_, a6, o6, rfl, _, hcell2⟩ := strC_cells (Kd.C_below G5.out HXX.out) (by omega)
  obtain ⟨x, hx⟩ : ∃ x, q.cols[j]? = some x := ⟨_, List.getElem?_eq_getElem hlt⟩
  have HC5 : Aside0 (wo.cell? ⟨a5, o5 + j, none⟩ = some (.string (strB x))) := ⟨hcell j x hx⟩
  have HC6 : Aside0 (wo.cell? ⟨a6, o6 + j, none⟩ = some (.string (strB x))) := ⟨hcell2 j x hx⟩
  have HZ0 : Aside0 (wo.cell? ⟨pb, 0, none⟩ = some (.slice (some ⟨a5, o5, none⟩) q.cols.length c5)) := ⟨cell_ext HX.out (blk_cell HZP.out 0)⟩
  have HY0 : Aside0 (wo.cell? ⟨qb, 0, none⟩ = some (.slice (some ⟨a6, o6, none⟩) q.cols.length d5)) := ⟨cell_ext HX.out (blk_cell HZQ.out 0)⟩
  have HLT := Aside0.mk hb
  have HLT2 := Aside0.mk (show (0 : Int) ≤ (j : Int) by omega)
  clear hcell hcell2 hx
  go_upto_region 6 with fail
  clear hb
  refine ext_region 11 [(0, 58), (1, 59), (2, 60), (3, 61), (4, 62), (5, 63), (6, 64), (7, 65), (8, 66), (9, 67), (10, 68)] [0, 1, 2, 3, 4, 5, 6, 7, 8, 9, 10] (fun i w v => match i with | 0 => v = .pointer (some ⟨pb, 0, none⟩) | 1 => v = .slice (some ⟨a5, o5, none⟩) q.cols.length c5 | 2 => v = .int .i64 (j : Nat) | 3 => v = .pointer (some ⟨a5, o5 + j, none⟩) | 4 => v = .string (strB x) | 5 => v = .pointer (some ⟨qb, 0, none⟩) | 6 => v = .slice (some ⟨a6, o6, none⟩) q.cols.length d5 | 7 => v = .int .i64 (j : Nat) | 8 => v = .pointer (some ⟨a6, o6 + j, none⟩) | 9 => v = .string (strB x) | 10 => v = .bool false | _ => True) (by kernel_rfl) (by kernel_rfl) (by rfl) rfl ?mono6 ?steps6 ?fin6
  case mono6 =>
   intro i w w' v h hE
   match i with
   | 0 => exact h
   | 1 => exact h
   | 2 => exact h
   | 3 => exact h
   | 4 => exact h
   | 5 => exact h
   | 6 => exact h
   | 7 => exact h
   | 8 => exact h
   | 9 => exact h
   | 10 => exact h
   | _ + 11 => trivial
  case steps6 =>
   refine stepE_cons ⟨_, rfl, fun a w hE hH => ?_⟩ ?_
   ·
    have e2 : a.tmps[2]? = some (.pointer (some ⟨pb, 0, none⟩)) := hH.old 2 rfl
    exact Or.inl ⟨rfl, goodE_val (.pointer (some ⟨pb, 0, none⟩)) (by simp [execOp, Act.eval, e2, go_sem]) rfl⟩
   refine stepE_cons ⟨_, rfl, fun a w hE hH => ?_⟩ ?_
   ·
    obtain ⟨v58, e58, g58⟩ := hH.dep 0 58 rfl (by kernel_rfl)
    have q58 : v58 = .pointer (some ⟨pb, 0, none⟩) := g58
    subst q58
    have hc := cell_ext ((Ext.to_drew _).trans hE) HZ0.out
    exact Or.inl ⟨(rfl), goodE_val (.slice (some ⟨a5, o5, none⟩) q.cols.length c5) (by simp [execOp, Act.eval, e58, hc, go_sem]) rfl⟩
   refine stepE_cons ⟨_, rfl, fun a w hE hH => ?_⟩ ?_
   ·
    have e5 : a.tmps[5]? = some (.int .i64 (j : Nat)) := hH.old 5 rfl
    exact Or.inl ⟨rfl, goodE_move _ rfl (eval_of e5) rfl⟩
   refine stepE_cons ⟨_, rfl, fun a w hE hH => ?_⟩ ?_
   ·
    obtain ⟨v59, e59, g59⟩ := hH.dep 1 59 rfl (by kernel_rfl)
    have q59 : v59 = .slice (some ⟨a5, o5, none⟩) q.cols.length c5 := g59
    subst q59
    obtain ⟨v60, e60, g60⟩ := hH.dep 2 60 rfl (by kernel_rfl)
    have q60 : v60 = .int .i64 (j : Nat) := g60
    subst q60
    exact Or.inl ⟨(rfl), goodE_val (.pointer (some ⟨a5, o5 + j, none⟩)) (by simp [execOp, Act.eval, e59, e60, Addr.add, HLT.out, HLT2.out, go_sem]; try (intro h0; first | (rw [h0]; rfl) | omega)) rfl⟩
   refine stepE_cons ⟨_, rfl, fun a w hE hH => ?_⟩ ?_
   ·
    obtain ⟨v61, e61, g61⟩ := hH.dep 3 61 rfl (by kernel_rfl)
    have q61 : v61 = .pointer (some ⟨a5, o5 + j, none⟩) := g61
    subst q61
    have hc := cell_ext ((Ext.to_drew _).trans hE) HC5.out
    exact Or.inl ⟨(rfl), goodE_val (.string (strB x)) (by simp [execOp, Act.eval, e61, hc, go_sem]) rfl⟩
   refine stepE_cons ⟨_, rfl, fun a w hE hH => ?_⟩ ?_
   ·
    have e3 : a.tmps[3]? = some (.pointer (some ⟨qb, 0, none⟩)) := hH.old 3 rfl
    exact Or.inl ⟨rfl, goodE_val (.pointer (some ⟨qb, 0, none⟩)) (by simp [execOp, Act.eval, e3, go_sem]) rfl⟩
   refine stepE_cons ⟨_, rfl, fun a w hE hH => ?_⟩ ?_
   ·
    obtain ⟨v63, e63, g63⟩ := hH.dep 5 63 rfl (by kernel_rfl)
    have q63 : v63 = .pointer (some ⟨qb, 0, none⟩) := g63
    subst q63
    have hc := cell_ext ((Ext.to_drew _).trans hE) HY0.out
    exact Or.inl ⟨(rfl), goodE_val (.slice (some ⟨a6, o6, none⟩) q.cols.length d5) (by simp [execOp, Act.eval, e63, hc, go_sem]) rfl⟩
   refine stepE_cons ⟨_, rfl, fun a w hE hH => ?_⟩ ?_
   ·
    have e5 : a.tmps[5]? = some (.int .i64 (j : Nat)) := hH.old 5 rfl
    exact Or.inl ⟨rfl, goodE_move _ rfl (eval_of e5) rfl⟩
   refine stepE_cons ⟨_, rfl, fun a w hE hH => ?_⟩ ?_
   ·
    obtain ⟨v64, e64, g64⟩ := hH.dep 6 64 rfl (by kernel_rfl)
    have q64 : v64 = .slice (some ⟨a6, o6, none⟩) q.cols.length d5 := g64
    subst q64
    obtain ⟨v65, e65, g65⟩ := hH.dep 7 65 rfl (by kernel_rfl)
    have q65 : v65 = .int .i64 (j : Nat) := g65
    subst q65
    exact Or.inl ⟨(rfl), goodE_val (.pointer (some ⟨a6, o6 + j, none⟩)) (by simp [execOp, Act.eval, e64, e65, Addr.add, HLT.out, HLT2.out, go_sem]; try (intro h0; first | (rw [h0]; rfl) | omega)) rfl⟩
   refine stepE_cons ⟨_, rfl, fun a w hE hH => ?_⟩ ?_
   ·
    obtain ⟨v66, e66, g66⟩ := hH.dep 8 66 rfl (by kernel_rfl)
    have q66 : v66 = .pointer (some ⟨a6, o6 + j, none⟩) := g66
    subst q66
    have hc := cell_ext ((Ext.to_drew _).trans hE) HC6.out
    exact Or.inl ⟨(rfl), goodE_val (.string (strB x)) (by simp [execOp, Act.eval, e66, hc, go_sem]) rfl⟩
   refine stepE_cons ⟨_, rfl, fun a w hE hH => ?_⟩ ?_
   ·
    obtain ⟨v62, e62, g62⟩ := hH.dep 4 62 rfl (by kernel_rfl)
    have q62 : v62 = .string (strB x) := g62
    subst q62
    obtain ⟨v67, e67, g67⟩ := hH.dep 9 67 rfl (by kernel_rfl)
    have q67 : v67 = .string (strB x) := g67
    subst q67
    exact Or.inl ⟨rfl, goodE_val (.bool false) (by simp [execOp, Act.eval, e67, e62, go_sem]) rfl⟩
   exact stepE_nil
  rintro vals wz hE hV
  have k68 : vals 10 = .bool false := hV 10 (by simp) rfl
  simp only [List.map_cons, List.map_nil, putAll, Act.put, List.setIfInBounds_toArray, List.set_cons_zero, List.set_cons_succ, k68]
  have HX2 : Aside0 (Ext w2 wz) := ⟨HX.out.trans ((Ext.to_drew _).trans hE)⟩
  clear hE hV
  go_wp2_with fail
  go_roundw
  case rel => exact ⟨j + 1, by omega, by go_num, HX2.out⟩
  case measure => simp [intOf]; omega
 ·
  obtain rfl : j = q.cols.length := by omega
  have hb : ¬ ((q.cols.length : Int) < q.cols.length) := by omega
  have y2 : wo.cell? ⟨qb, 2, none⟩ = some (.slice B7 q.wh.length d7) := cell_ext HX.out (blk_cell HZQ.out 2)
  go_wp2_with fail
  clear hb y2
  go_loopw [73] (fun s73 W => ∃ j : Nat, j ≤ q.wh.length ∧ s73 = .int .i64 j ∧ Ext w2 W) (fun v _ => q.wh.length - (intOf v).toNat)
  case atStart => exact ⟨0, by omega, rfl, HX.out⟩
  case round =>
  clear HX HXX
  obtain ⟨wp, hwp⟩ : ∃ wp : World, wp = wr := ⟨_, rfl⟩
  subst hwp
  obtain ⟨j, hj, rfl, hX⟩ := hrel
  have HX := Aside0.mk hX
  have HXX := Aside0.mk (HE2.out.trans hX)
  by_cases hlt : j < q.wh.length
  ·
   have hb : (j : Int) < q.wh.length := by omega
   obtain ⟨t, ht⟩ : ∃ t, t = q.wh[j] := ⟨_, rfl⟩
   obtain ⟨ad, hA, d1, d2, d3⟩ := at_T37 (Kd.C_below H7.out HXX.out) (j : Int) (by omega) hb
   obtain ⟨ad2, hA2, f1, f2, f3⟩ := at_T70 (Kd.C_below G7.out HXX.out) (j : Int) (by omega) hb
   rw [rd37 _ _ hlt, ← ht] at d1 d2 d3
   rw [rd70 _ _ hlt, ← ht] at f1 f2 f3
   simp only [t37, t70, Int.toNat_natCast] at d1 d2 d3 f1 f2 f3
   subst hA hA2
   have y2 : wp.cell? ⟨qb, 2, none⟩ = some (.slice (some ad2) q.wh.length d7) := cell_ext hX (blk_cell HZQ.out 2)
   have HD1 := Aside0.mk d1
   have HD2 := Aside0.mk d2
   have HD3 := Aside0.mk d3
   clear ht d1 d2 d3 hX
   go_upto_region 13 with fail
   obtain ⟨wt, hwt⟩ : ∃ W, W = wp.alloc (.cells #[.string (strB t.col), .int .i64 t.op, .string (strB t.val)] 70) := ⟨_, rfl⟩
   have hE1 : Ext wp wt := by rw [hwt]; exact (Ext.refl _).alloc _
   have hzt : wt.heap[wp.heap.size]? = some (.cells #[.string (strB t.col), .int .i64 t.op, .string (strB t.val)] 70 (0, 0)) := by rw [hwt]; exact heap_alloc_new _ _
   obtain ⟨tb, htb⟩ : ∃ n, n = wp.heap.size := ⟨_, rfl⟩
   rw [← htb] at hzt
   rw [← hwt, ← htb]
   have HD1 := Aside0.mk (cell_ext hE1 HD1.out)
   have HD2 := Aside0.mk (cell_ext hE1 HD2.out)
   have HD3 := Aside0.mk (cell_ext hE1 HD3.out)
   have HT0 : Aside0 (wt.cell? ⟨tb, 0, none⟩ = some (.string (strB t.col))) := ⟨blk_cell hzt 0⟩
   have HT1 : Aside0 (wt.cell? ⟨tb, 1, none⟩ = some (.int .i64 t.op)) := ⟨blk_cell hzt 1⟩
   have HT2 : Aside0 (wt.cell? ⟨tb, 2, none⟩ = some (.string (strB t.val))) := ⟨blk_cell hzt 2⟩
   have HZ2 : Aside0 (wt.cell? ⟨pb, 2, none⟩ = some (.slice (some ad) q.wh.length c7)) := ⟨cell_ext (HX.out.trans hE1) (blk_cell HZP.out 2)⟩
   have HXt := Aside0.mk (HX.out.trans hE1)
   have HLT := Aside0.mk hb
   have HLT2 := Aside0.mk (show (0 : Int) ≤ (j : Int) by omega)
   clear hwt hE1 hzt htb y2 f1 f2 f3 hb
   refine ext_region 13 [(0, 81), (1, 82), (2, 83), (3, 84), (4, 85), (5, 86), (6, 87), (7, 88), (8, 89), (9, 90), (10, 91), (11, 92), (12, 93)] [0, 1, 2, 3, 4, 5, 6, 7, 8, 9, 10, 11, 12] (fun i w v => match i with | 0 => v = .pointer (some ⟨pb, 2, none⟩) | 1 => v = .slice (some ad) q.wh.length c7 | 2 => v = .int .i64 (j : Nat) | 3 => v = .pointer (some (ad.add (j * 3))) | 4 => v = .agg #[.string (strB t.col), .int .i64 t.op, .string (strB t.val)] | 5 => v = .pointer (some ⟨tb, 0, none⟩) | 6 => v = .string (strB t.col) | 7 => v = .pointer (some ⟨tb, 1, none⟩) | 8 => v = .int .i64 t.op | 9 => v = .pointer (some ⟨tb, 2, none⟩) | 10 => v = .string (strB t.val) | 11 => v = .agg #[.string (strB t.col), .int .i64 t.op, .string (strB t.val)] | 12 => v = .bool false | _ => True) (by kernel_rfl) (by kernel_rfl) (by rfl) rfl ?mono13 ?steps13 ?fin13
   case mono13 =>
    intro i w w' v h hE
    match i with
    | 0 => exact h
    | 1 => exact h
    | 2 => exact h
    | 3 => exact h
    | 4 => exact h
    | 5 => exact h
    | 6 => exact h
    | 7 => exact h
    | 8 => exact h
    | 9 => exact h
    | 10 => exact h
    | 11 => exact h
    | 12 => exact h
    | _ + 13 => trivial
   case steps13 =>
    refine stepE_cons ⟨_, rfl, fun a w hE hH => ?_⟩ ?_
    ·
     have e2 : a.tmps[2]? = some (.pointer (some ⟨pb, 0, none⟩)) := hH.old 2 rfl
     exact Or.inl ⟨rfl, goodE_val (.pointer (some ⟨pb, 2, none⟩)) (by simp [execOp, Act.eval, e2, go_sem]) rfl⟩
    refine stepE_cons ⟨_, rfl, fun a w hE hH => ?_⟩ ?_
    ·
     obtain ⟨v81, e81, g81⟩ := hH.dep 0 81 rfl (by kernel_rfl)
     have q81 : v81 = .pointer (some ⟨pb, 2, none⟩) := g81
     subst q81
     have hc := cell_ext ((Ext.to_drew _).trans hE) HZ2.out
     exact Or.inl ⟨(rfl), goodE_val (.slice (some ad) q.wh.length c7) (by simp [execOp, Act.eval, e81, hc, go_sem]) rfl⟩
    refine stepE_cons ⟨_, rfl, fun a w hE hH => ?_⟩ ?_
    ·
     have e6 : a.tmps[6]? = some (.int .i64 (j : Nat)) := hH.old 6 rfl
     exact Or.inl ⟨rfl, goodE_move _ rfl (eval_of e6) rfl⟩
    refine stepE_cons ⟨_, rfl, fun a w hE hH => ?_⟩ ?_
    ·
     obtain ⟨v82, e82, g82⟩ := hH.dep 1 82 rfl (by kernel_rfl)
     have q82 : v82 = .slice (some ad) q.wh.length c7 := g82
     subst q82
     obtain ⟨v83, e83, g83⟩ := hH.dep 2 83 rfl (by kernel_rfl)
     have q83 : v83 = .int .i64 (j : Nat) := g83
     subst q83
     exact Or.inl ⟨(rfl), goodE_val (.pointer (some (ad.add (j * 3)))) (by simp [execOp, Act.eval, e82, e83, HLT.out, HLT2.out, go_sem]) rfl⟩
    refine stepE_cons ⟨_, rfl, fun a w hE hH => ?_⟩ ?_
    ·
     obtain ⟨v84, e84, g84⟩ := hH.dep 3 84 rfl (by kernel_rfl)
     have q84 : v84 = .pointer (some (ad.add (j * 3))) := g84
     subst q84
     have hc1 := cell_ext ((Ext.to_drew _).trans hE) HD1.out
     have hc2 := cell_ext ((Ext.to_drew _).trans hE) HD2.out
     have hc3 := cell_ext ((Ext.to_drew _).trans hE) HD3.out
     exact Or.inl ⟨(rfl), goodE_val (.agg #[.string (strB t.col), .int .i64 t.op, .string (strB t.val)]) (by simp [execOp, Act.eval, e84, hc1, hc2, hc3, go_sem]) rfl⟩
    refine stepE_cons ⟨_, rfl, fun a w hE hH => ?_⟩ ?_
    ·
     have e7 : a.tmps[7]? = some (.pointer (some ⟨tb, 0, none⟩)) := hH.old 7 rfl
     exact Or.inl ⟨rfl, goodE_val (.pointer (some ⟨tb, 0, none⟩)) (by simp [execOp, Act.eval, e7, go_sem]) rfl⟩
    refine stepE_cons ⟨_, rfl, fun a w hE hH => ?_⟩ ?_
    ·
     obtain ⟨v86, e86, g86⟩ := hH.dep 5 86 rfl (by kernel_rfl)
     have q86 : v86 = .pointer (some ⟨tb, 0, none⟩) := g86
     subst q86
     have hc := cell_ext ((Ext.to_drew _).trans hE) HT0.out
     exact Or.inl ⟨(rfl), goodE_val (.string (strB t.col)) (by simp [execOp, Act.eval, e86, hc, go_sem]) rfl⟩
    refine stepE_cons ⟨_, rfl, fun a w hE hH => ?_⟩ ?_
    ·
     have e7 : a.tmps[7]? = some (.pointer (some ⟨tb, 0, none⟩)) := hH.old 7 rfl
     exact Or.inl ⟨rfl, goodE_val (.pointer (some ⟨tb, 1, none⟩)) (by simp [execOp, Act.eval, e7, go_sem]) rfl⟩
    refine stepE_cons ⟨_, rfl, fun a w hE hH => ?_⟩ ?_
    ·
     obtain ⟨v88, e88, g88⟩ := hH.dep 7 88 rfl (by kernel_rfl)
     have q88 : v88 = .pointer (some ⟨tb, 1, none⟩) := g88
     subst q88
     have hc := cell_ext ((Ext.to_drew _).trans hE) HT1.out
     exact Or.inl ⟨(rfl), goodE_val (.int .i64 t.op) (by simp [execOp, Act.eval, e88, hc, go_sem]) rfl⟩
    refine stepE_cons ⟨_, rfl, fun a w hE hH => ?_⟩ ?_
    ·
     have e7 : a.tmps[7]? = some (.pointer (some ⟨tb, 0, none⟩)) := hH.old 7 rfl
     exact Or.inl ⟨rfl, goodE_val (.pointer (some ⟨tb, 2, none⟩)) (by simp [execOp, Act.eval, e7, go_sem]) rfl⟩
    refine stepE_cons ⟨_, rfl, fun a w hE hH => ?_⟩ ?_
    ·
     obtain ⟨v90, e90, g90⟩ := hH.dep 9 90 rfl (by kernel_rfl)
     have q90 : v90 = .pointer (some ⟨tb, 2, none⟩) := g90
     subst q90
     have hc := cell_ext ((Ext.to_drew _).trans hE) HT2.out
     exact Or.inl ⟨(rfl), goodE_val (.string (strB t.val)) (by simp [execOp, Act.eval, e90, hc, go_sem]) rfl⟩
    refine stepE_cons ⟨_, rfl, fun a w hE hH => ?_⟩ ?_
    ·
     obtain ⟨v87, e87, g87⟩ := hH.dep 6 87 rfl (by kernel_rfl)
     have q87 : v87 = .string (strB t.col) := g87
     subst q87
     obtain ⟨v89, e89, g89⟩ := hH.dep 8 89 rfl (by kernel_rfl)
     have q89 : v89 = .int .i64 t.op := g89
     subst q89
     obtain ⟨v91, e91, g91⟩ := hH.dep 10 91 rfl (by kernel_rfl)
     have q91 : v91 = .string (strB t.val) := g91
     subst q91
     exact Or.inl ⟨rfl, goodE_val (.agg #[.string (strB t.col), .int .i64 t.op, .string (strB t.val)]) (by simp [execOp, Act.eval, e89, e91, e87, go_sem]) rfl⟩
    refine stepE_cons ⟨_, rfl, fun a w hE hH => ?_⟩ ?_
    ·
     obtain ⟨v85, e85, g85⟩ := hH.dep 4 85 rfl (by kernel_rfl)
     have q85 : v85 = .agg #[.string (strB t.col), .int .i64 t.op, .string (strB t.val)] := g85
     subst q85
     obtain ⟨v92, e92, g92⟩ := hH.dep 11 92 rfl (by kernel_rfl)
     have q92 : v92 = .agg #[.string (strB t.col), .int .i64 t.op, .string (strB t.val)] := g92
     subst q92
     exact Or.inl ⟨rfl, goodE_val (.bool false) (by simp [execOp, Act.eval, e92, e85, go_sem]) rfl⟩
    exact stepE_nil
   rintro vals wz hE hV
   have k93 : vals 12 = .bool false := hV 12 (by simp) rfl
   simp only [List.map_cons, List.map_nil, putAll, Act.put, List.setIfInBounds_toArray, List.set_cons_zero, List.set_cons_succ, k93]
   have HX2 : Aside0 (Ext w2 wz) := ⟨HXt.out.trans ((Ext.to_drew _).trans hE)⟩
   clear hE hV
   go_wp2_with fail
   go_roundw
   case rel => exact ⟨j + 1, by omega, by go_num, HX2.out⟩
   case measure => simp [intOf]; omega
  ·
   obtain rfl : j = q.wh.length := by omega
   have hb : ¬ ((q.wh.length : Int) < q.wh.length) := by omega
   clear hX
   go_wp2_with fail
   go_ret
   exact ⟨rfl, HE2.out.trans HX.out⟩
end Go.Proofs.YthhemephaabblaaGreatDoor.Hq
