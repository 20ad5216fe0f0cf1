/- Parts of the proof: ShaStates: the script opened; four states and four rows of bytes. ShaStates: four states and four rows of bytes. append(append([]byte{}, x...), y...) in a region that draws its order; copied, with its row. cairnlaw02.ShaStates: true. How great a list of lists is. -/
import Derived.Test.YtnkhhnfmijljbaaDoorZStatesf
import Derived.Lib.SmallJoins
import Derived.Test.YtnkhhnfmijljbaaDoorZStatesc
import Derived.Deep.CutBlock
import Derived.Deep.CutRange
set_option linter.unusedVariables false
set_option linter.unusedSimpArgs false
namespace Go.Proofs.YtnkhhnfmijljbaaDoor
open Go.ChangeShapes Go.WideShapes Go.ChangeAt Go.RowKit Go.Proofs.YtnkhhnfmijljbaaDoorW.PrintWords Go.Proofs.YtnkhhnfmijljbaaDoorW.PrintLast Go.Proofs.YtnkhhnfmijljbaaDoorW.PrintMore
open Extern.Stop (cell)

structure OpD where
  kind : Int
  w : Int
  tt : Int
  b : List UInt8
def i64ok (x : Int) : Prop := -9223372036854775808 ≤ x ∧ x ≤ 9223372036854775807
def opL (x : OpD) (A : Option Addr) (c : Nat) : List Value := [.int .i64 x.kind, .int .i64 x.w, .int .i64 x.tt, .slice A x.b.length c]
/-- one step of the script, at ad -/
def OpAt (w : World) (ad : Addr) (x : OpD) : Prop := ∃ A c, (∀ j v, (opL x A c)[j]? = some v → w.cell? (ad.add j) = some v) ∧ x.b.length ≤ c ∧ Bs w A x.b.length x.b ∧ i64ok x.kind ∧ i64ok x.w ∧ i64ok x.tt
theorem OpAt.ext {w w' : World} {ad : Addr} {x : OpD} (h : OpAt w ad x) (hE : Ext w w') : OpAt w' ad x := by
  obtain ⟨A, c, h1, h2, h3, h4⟩ := h
  exact ⟨A, c, fun j v hv => cell_ext hE (h1 j v hv), h2, h3.ext hE, h4⟩
def OpsR (w : World) (P : Option Addr) (ops : List OpD) : Prop := ∀ k (hk : k < ops.length), ∃ ad, P = some ad ∧ OpAt w (ad.add (k * 4)) ops[k]
theorem OpsR.ext {w w' : World} {P : Option Addr} {ops : List OpD} (h : OpsR w P ops) (hE : Ext w w') : OpsR w' P ops := fun k hk => by
  obtain ⟨ad, h1, h2⟩ := h k hk
  exact ⟨ad, h1, h2.ext hE⟩
theorem run_loadVar_ad {P : Program} (w : World) (a : Addr) (ty : TypeId) (cs : List Value) (d : TypeDesc) (hc : ∀ j v, cs[j]? = some v → w.cell? (a.add j) = some v)
    (hu : P.underlying ty = some d) (hd : d.isRow = true) (hi : (P.info? ty).map (·.size) = some cs.length) :
    (loadVar ty a).run P w = .ok (.agg cs.toArray) w := by
  have hl : (loadCells a cs.length).run P w = .ok cs.toArray w := run_loadCells_list (P := P) w a cs hc
  cases hq : P.info? ty with
  | none => simp [hq] at hi
  | some i =>
    have hs : i.size = cs.length := by simpa [hq] using hi
    have hagg : (isAgg ty).run P w = .ok true w := by
      unfold isAgg
      rw [Sem.run_bind, run_underlying hu w]
      cases d <;> simp_all
    simp [loadVar, Sem.run_bind, hagg, sizeOf, typeInfo, hq, hs, hl]
theorem exec_load_ad {P : Program} {w : World} {ρ : Operand → Value} {o : Oper} {x : Operand} (ty : TypeId) (ho : o.op = .load ty x) (a : Addr) (hx : ρ x = .pointer (some a)) (cs : List Value) (d : TypeDesc) (hc : ∀ j v, cs[j]? = some v → w.cell? (a.add j) = some v)
    (hu : P.underlying ty = some d) (hd : d.isRow = true) (hi : (P.info? ty).map (·.size) = some cs.length) : (execOp ρ o).run P w = .ok (.value (.agg cs.toArray)) w := by
  unfold execOp
  simp only [ho, hx, Instr.loadAt, Instr.sureAddr, Sem.run_bind, Sem.run_pure, Result.andThen_ok, run_loadVar_ad w a ty cs d hc hu hd hi]
section
variable {H : Type} {enc : TypeId × Value → H} {w : World} {r : Reach} {b0 : Nat} {v : Value} {d : DataW H} {p : List MemPlace}
theorem cells48 : Tryd.prog.cellsOf 48 = 4 := by kernel_rfl
theorem cells_of_cells? {w : World} {b : Nat} {ad : Addr} {n : Nat} {cs : List Value} (h : w.cells? b ad n = some cs) : ∀ j v, cs[j]? = some v → w.cell? (ad.add j) = some v := by
  obtain ⟨_, hl, hc⟩ := World.cells?_some h
  intro j v hv
  have hj := (List.getElem?_eq_some_iff.1 hv).1
  rw [hc j (by omega), hv]
theorem open_op {fuel : Nat} {cs : List Value} {ad : Addr} {y : DataW H × List MemPlace} (hc : ∀ j v, cs[j]? = some v → w.cell? (ad.add j) = some v) (h : DataW.trod enc Tryd.prog w 0 (fun _ => true) true fuel 48 cs = some y) :
    ∃ x : OpD, OpAt w ad x ∧ x.b.length + 1 ≤ Rows.uptoBulk y.1 := by
  obtain ⟨y0, y1, y2, y3, n, rfl, hl, h0, h1, h2, h3⟩ := Go.Joins.trod_struct4 Tryd.underlying48 h
  rw [cells48] at hl
  obtain ⟨c0, c1, c2, c3, rfl⟩ : ∃ c0 c1 c2 c3, cs = [c0, c1, c2, c3] := by
    match cs, hl with
    | [c0, c1, c2, c3], _ => exact ⟨c0, c1, c2, c3, rfl⟩
  rw [cells3] at h0 h1 h2
  rw [cells24] at h3
  obtain ⟨n0, e0, _, w0⟩ := DataW.trod_int Tryd.underlying3 h0
  obtain ⟨n1, e1, _, w1⟩ := DataW.trod_int Tryd.underlying3 h1
  obtain ⟨n2, e2, _, w2⟩ := DataW.trod_int Tryd.underlying3 h2
  obtain ⟨A', c', q, e3, h4, h5, h6⟩ := open_u8s (v := c3) Tryd.underlying24 Tryd.underlying5 cells5 h3
  simp at e0 e1 e2
  subst e0 e1 e2 e3
  refine ⟨⟨n0, n1, n2, q⟩, ⟨A', c', hc, h4, h5, i64_of_wf w0, i64_of_wf w1, i64_of_wf w2⟩, ?_⟩
  simp only [Rows.uptoBulk, Rows.uptoBulkAll]
  omega
/-- an argument []Op -/
theorem open_arg_ops (hv : Value.okWide Tryd.prog w r b0 44 v) (h : DataW.Trod enc Tryd.prog w 0 (fun _ => true) true 44 v d p) :
    ∃ (A : Option Addr) (c : Nat) (ops : List OpD), v = .slice A ops.length c ∧ ops.length ≤ c ∧ OpsR w A ops ∧ (ops.map fun x => x.b.length + 1).sum ≤ Rows.uptoBulk d := by
  obtain ⟨a, n, c, rfl⟩ := okWide_slice Tryd.underlying44 hv
  obtain ⟨fuel, hf⟩ := h
  rcases DataW.trod_slice Tryd.underlying44 hf with ⟨hcs, hy⟩ | ⟨a', len, cap, elems, rest, m, _, hcs, hx, hb, hl, hm, hlen, hel, hsp, hns⟩
  · have e : (Value.slice a n c) = .slice none 0 0 := by simpa [Value.cells] using hcs
    injection e with e1 e2 e3
    subst e1 e2 e3
    refine ⟨none, 0, [], rfl, Nat.le_refl _, (fun k hk => by cases hk), Nat.zero_le _⟩
  · have e : (Value.slice a n c) = .slice (some a') len cap := by simpa [Value.cells] using hcs
    injection e with e1 e2 e3
    subst e1 e2 e3
    have key : ∀ i, ∃ q : OpD, ∀ y, elems[i]? = some y → OpAt w (a'.add (i * 4)) q ∧ q.b.length + 1 ≤ Rows.uptoBulk y.1 := by
      intro i
      by_cases hi : i < elems.length
      · have h1 := hel i (by omega)
        rw [List.getElem?_eq_getElem hi, cells48, Option.bind_eq_some_iff] at h1
        obtain ⟨cs', hcs', hy⟩ := h1
        obtain ⟨q, h2, h3⟩ := open_op (cells_of_cells? hcs') hy
        refine ⟨q, fun y hy' => ?_⟩
        rw [List.getElem?_eq_getElem hi] at hy'
        cases hy'
        exact ⟨h2, h3⟩
      · exact ⟨⟨0, 0, 0, []⟩, fun y hy => by rw [List.getElem?_eq_none (by omega)] at hy; cases hy⟩
    obtain ⟨f, hfq⟩ := Classical.axiomOfChoice key
    have hel' : ∀ i, i < elems.length → elems[i]? = some (elems[i]?.getD (.nil, [])) := fun i hi => by rw [List.getElem?_eq_getElem hi]; rfl
    refine ⟨some a', c, (List.range n).map f, by simp, by simpa using hl, fun k hk => ?_, ?_⟩
    · have hk' : k < n := by simpa using hk
      refine ⟨a', rfl, ?_⟩
      have := (hfq k _ (hel' k (by omega))).1
      simpa using this
    · have hd : d = .slice (elems.map (·.1)) (rest.map (·.1)) := congrArg Prod.fst hx
      have h1 := bulk_sum (fun x : OpD => x.b.length + 1) (elems.map (·.1)) f (fun i y hi => by
        rw [List.getElem?_map, Option.map_eq_some_iff] at hi
        obtain ⟨z, hz, rfl⟩ := hi
        exact (hfq i z hz).2)
      rw [List.length_map, hlen] at h1
      rw [hd]
      simp only [Rows.uptoBulk]
      omega
end
end Go.Proofs.YtnkhhnfmijljbaaDoor
set_option linter.unusedVariables false
set_option linter.unusedSimpArgs false
namespace Go.Proofs.YtnkhhnfmijljbaaDoor
open Go.RowKit Go.Proofs.YtnkhhnfmijljbaaDoorW.PrintWords Go.Proofs.YtnkhhnfmijljbaaDoorW.PrintLast Go.Proofs.YtnkhhnfmijljbaaDoorW.PrintMore
open Extern.Stop (cell)

def upd {α : Type} (f : Nat → α) (i : Nat) (x : α) : Nat → α := fun j => if j = i then x else f j
theorem upd_self {α : Type} (f : Nat → α) (i : Nat) (x : α) : upd f i x i = x := by simp [upd]
theorem upd_ne {α : Type} (f : Nat → α) (i j : Nat) (x : α) (h : j ≠ i) : upd f i x j = f j := by simp [upd, h]
def ptrs (gs : Nat → Nat) : List Value := [.pointer (some ⟨gs 0, 0, none⟩), .pointer (some ⟨gs 1, 0, none⟩), .pointer (some ⟨gs 2, 0, none⟩), .pointer (some ⟨gs 3, 0, none⟩)]
def slcs (A : Nat → Option Addr) (c : Nat → Nat) (bs : Nat → List UInt8) : List Value := [.slice (A 0) (bs 0).length (c 0), .slice (A 1) (bs 1).length (c 1), .slice (A 2) (bs 2).length (c 2), .slice (A 3) (bs 3).length (c 3)]
theorem ptrs_at (gs : Nat → Nat) (i : Nat) (h : i < 4) : (ptrs gs)[i]? = some (.pointer (some ⟨gs i, 0, none⟩)) := by
  match i, h with
  | 0, _ | 1, _ | 2, _ | 3, _ => rfl
theorem slcs_at (A : Nat → Option Addr) (c : Nat → Nat) (bs : Nat → List UInt8) (i : Nat) (h : i < 4) : (slcs A c bs)[i]? = some (.slice (A i) (bs i).length (c i)) := by
  match i, h with
  | 0, _ | 1, _ | 2, _ | 3, _ => rfl
theorem ptrs_set (gs : Nat → Nat) (i g : Nat) (h : i < 4) : (ptrs gs).set i (.pointer (some ⟨g, 0, none⟩)) = ptrs (upd gs i g) := by
  match i, h with
  | 0, _ | 1, _ | 2, _ | 3, _ => rfl
theorem slcs_set (A : Nat → Option Addr) (c : Nat → Nat) (bs : Nat → List UInt8) (i : Nat) (h : i < 4) (A' : Option Addr) (c' : Nat) (x : List UInt8) : (slcs A c bs).set i (.slice A' x.length c') = slcs (upd A i A') (upd c i c') (upd bs i x) := by
  match i, h with
  | 0, _ | 1, _ | 2, _ | 3, _ => rfl
structure T4 (base : Nat) (w : World) (S K : Nat) (gs : Nat → Nat) (ss : Nat → List UInt8) (A : Nat → Option Addr) (c : Nat → Nat) (bs : Nat → List UInt8) : Prop where
  rS : Row w S (ptrs gs) 45
  rB : Row w K (slcs A c bs) 46
  st : ∀ i, i < 4 → St w (gs i) (ss i) (ss i).length
  bb : ∀ i, i < 4 → (bs i).length ≤ c i ∧ Bs w (A i) (bs i).length (bs i)
  ap : ∀ i, i < 4 → ∀ ad, A i = some ad → 0 < (bs i).length → ad.block ≠ S ∧ ad.block ≠ K ∧ ∀ j, j < 4 → ad.block ≠ gs j
  nS : S ≠ K ∧ base ≤ S ∧ base ≤ K
  nJ : ∀ j, j < 4 → gs j ≠ S ∧ gs j ≠ K ∧ base ≤ gs j
  nG : ∀ i j, i < 4 → j < 4 → i ≠ j → gs i ≠ gs j
theorem St.only {w w' : World} {g k : Nat} {bs : List UInt8} {tk : Int} (h : St w g bs tk) (hO : Only w k w') (hne : g ≠ k) : St w' g bs tk := by
  obtain ⟨T, hT, hR⟩ := h
  exact ⟨T, hT, hO.row hR hne⟩
section
variable {base S K : Nat} {w0 w w' : World} {gs : Nat → Nat} {ss : Nat → List UInt8} {A : Nat → Option Addr} {c : Nat → Nat} {bs : Nat → List UInt8}
theorem T4.ext (h : T4 base w S K gs ss A c bs) (hE : Ext w w') : T4 base w' S K gs ss A c bs :=
  ⟨h.rS.ext hE, h.rB.ext hE, fun i hi => (h.st i hi).ext hE, fun i hi => ⟨(h.bb i hi).1, (h.bb i hi).2.ext hE⟩, h.ap, h.nS, h.nJ, h.nG⟩
theorem T4.lts (h : T4 base w S K gs ss A c bs) : S < w.heap.size ∧ K < w.heap.size ∧ (∀ i, i < 4 → gs i < w.heap.size) ∧ ∀ i, i < 4 → ∀ ad, A i = some ad → 0 < (bs i).length → ad.block < w.heap.size :=
  ⟨h.rS.lt, h.rB.lt, fun i hi => (h.st i hi).choose_spec.2.lt, fun i hi ad ha hn => fr_lt (h.bb i hi).2 ad ha hn⟩
/-- what is written lies in a block that is none of theirs -/
theorem T4.only {g : Nat} (h : T4 base w S K gs ss A c bs) (hO : Only w g w') (hS : S ≠ g) (hK : K ≠ g) (hG : ∀ i, i < 4 → gs i ≠ g) (hA : ∀ i, i < 4 → ∀ ad, A i = some ad → 0 < (bs i).length → ad.block ≠ g) : T4 base w' S K gs ss A c bs :=
  ⟨hO.row h.rS hS, hO.row h.rB hK, fun i hi => (h.st i hi).only hO (hG i hi), fun i hi => ⟨(h.bb i hi).1, (h.bb i hi).2.only hO (hA i hi)⟩, h.ap, h.nS, h.nJ, h.nG⟩
theorem T4.fresh {g : Nat} (h0 : T4 base w0 S K gs ss A c bs) (hE : Ext w0 w) (hO : Only w g w') (hg : w0.heap.size ≤ g) : T4 base w' S K gs ss A c bs := by
  obtain ⟨h1, h2, h3, h4⟩ := h0.lts
  exact (h0.ext hE).only hO (by omega) (by omega) (fun i hi => by have := h3 i hi; omega) (fun i hi ad ha hn => by have := h4 i hi ad ha hn; omega)
theorem T4.write {i : Nat} {x : List UInt8} (h : T4 base w S K gs ss A c bs) (hi : i < 4) (hO : Only w (gs i) w') (hst : St w' (gs i) x x.length) : T4 base w' S K gs (upd ss i x) A c bs := by
  refine ⟨hO.row h.rS (h.nJ i hi).1.symm, hO.row h.rB (h.nJ i hi).2.1.symm, fun j hj => ?_, fun j hj => ⟨(h.bb j hj).1, (h.bb j hj).2.only hO (fun ad ha hn => (h.ap j hj ad ha hn).2.2 i hi)⟩, h.ap, h.nS, h.nJ, h.nG⟩
  by_cases hji : j = i
  · subst hji; rw [upd_self]; exact hst
  · rw [upd_ne _ _ _ _ hji]; exact (h.st j hj).only hO (h.nG j i hj hi hji)
/-- s[i] = a new state -/
theorem T4.setS {i g : Nat} {x : List UInt8} (h0 : T4 base w0 S K gs ss A c bs) (hE : Ext w0 w) (hi : i < 4) (hg : w0.heap.size ≤ g) (hb : base ≤ w0.heap.size) (hst : St w g x x.length) :
    T4 base (w.setCell ⟨S, i, none⟩ (.pointer (some ⟨g, 0, none⟩))) S K (upd gs i g) (upd ss i x) A c bs := by
  obtain ⟨h1, h2, h3, h4⟩ := h0.lts
  have h := h0.ext hE
  have hO : Only w S (w.setCell ⟨S, i, none⟩ (.pointer (some ⟨g, 0, none⟩))) := (Only.refl w S).set i _
  refine ⟨?_, hO.row h.rB h.nS.1.symm, fun j hj => ?_, fun j hj => ⟨(h.bb j hj).1, (h.bb j hj).2.only hO (fun ad ha hn => (h.ap j hj ad ha hn).1)⟩, fun j hj ad ha hn => ⟨(h.ap j hj ad ha hn).1, (h.ap j hj ad ha hn).2.1, fun k hk => ?_⟩, h.nS, fun j hj => ?_, fun j k hj hk hne => ?_⟩
  · rw [← ptrs_set gs i g hi]; exact h.rS.set i _
  · by_cases hji : j = i
    · subst hji; rw [upd_self, upd_self]; exact hst.only hO (by omega)
    · rw [upd_ne _ _ _ _ hji, upd_ne _ _ _ _ hji]; exact (h.st j hj).only hO (h.nJ j hj).1
  · by_cases hki : k = i
    · subst hki; rw [upd_self]; have := h4 j hj ad ha hn; omega
    · rw [upd_ne _ _ _ _ hki]; exact (h.ap j hj ad ha hn).2.2 k hk
  · by_cases hji : j = i
    · subst hji; rw [upd_self]; exact ⟨by omega, by omega, by omega⟩
    · rw [upd_ne _ _ _ _ hji]; exact h.nJ j hj
  · by_cases hji : j = i
    · subst hji
      have hkj : k ≠ j := fun e => hne e.symm
      rw [upd_self, upd_ne _ _ _ _ hkj]; have := h3 k hk; omega
    · rw [upd_ne _ _ _ _ hji]
      by_cases hki : k = i
      · subst hki; rw [upd_self]; have := h3 j hj; omega
      · rw [upd_ne _ _ _ _ hki]; exact h.nG j k hj hk hne
/-- b[i] = these bytes -/
theorem T4.setB {i : Nat} {A' : Option Addr} {c' : Nat} {x : List UInt8} (h : T4 base w S K gs ss A c bs) (hi : i < 4) (hc : x.length ≤ c') (hb : Bs w A' x.length x) (ha : ∀ ad, A' = some ad → 0 < x.length → ad.block ≠ S ∧ ad.block ≠ K ∧ ∀ j, j < 4 → ad.block ≠ gs j) :
    T4 base (w.setCell ⟨K, i, none⟩ (.slice A' x.length c')) S K gs ss (upd A i A') (upd c i c') (upd bs i x) := by
  have hO : Only w K (w.setCell ⟨K, i, none⟩ (.slice A' x.length c')) := (Only.refl w K).set i _
  refine ⟨hO.row h.rS h.nS.1, ?_, fun j hj => (h.st j hj).only hO (h.nJ j hj).2.1, fun j hj => ?_, fun j hj => ?_, h.nS, h.nJ, h.nG⟩
  · rw [← slcs_set A c bs i hi]; exact h.rB.set i _
  · by_cases hji : j = i
    · subst hji; rw [upd_self, upd_self, upd_self]; exact ⟨hc, hb.only hO (fun ad he hn => (ha ad he hn).2.1)⟩
    · rw [upd_ne _ _ _ _ hji, upd_ne _ _ _ _ hji, upd_ne _ _ _ _ hji]; exact ⟨(h.bb j hj).1, (h.bb j hj).2.only hO (fun ad he hn => (h.ap j hj ad he hn).2.1)⟩
  · by_cases hji : j = i
    · subst hji; rw [upd_self, upd_self]; exact ha
    · rw [upd_ne _ _ _ _ hji, upd_ne _ _ _ _ hji]; exact h.ap j hj
end
end Go.Proofs.YtnkhhnfmijljbaaDoor
set_option linter.unusedVariables false
set_option linter.unusedSimpArgs false
namespace Go.Proofs.YtnkhhnfmijljbaaDoor
open Go.RowKit Go.Proofs.YtnkhhnfmijljbaaDoorW.PrintWords Go.Proofs.YtnkhhnfmijljbaaDoorW.PrintLast Go.Proofs.YtnkhhnfmijljbaaDoorW.PrintMore
open Extern.Stop (cell)

theorem nums_cells (al : List UInt8) : nums .u8 (ints al) = al.map cell := by simp [nums, ints, cell, n8]
theorem run_app2 {B : Nat} {W : World} (ty : TypeId) {v : Value} {q ys : List UInt8} {A : Option Addr} {c : Nat} (hO : Ob B W v q) (hy : Bs W A ys.length ys) (hB : B ≤ W.heap.size) (hl : q.length + ys.length ≤ 140737488355328) :
    ∃ v1 w1, (Builtin.append_ #[24, 24] ty #[v, .slice A ys.length c]).run Tryd.prog W = .ok v1 w1 ∧ Ob B w1 v1 (q ++ ys) ∧ Below B W w1 ∧ ∀ u q', q'.length ≤ q.length → Ob B W u q' → Ob B w1 u q' := by
  obtain ⟨i, hi, hz, hsz, hby⟩ := i5
  rcases Nat.eq_zero_or_pos ys.length with h0 | h0
  · obtain rfl : ys = [] := List.eq_nil_of_length_eq_zero h0
    refine ⟨v, W, ?_, by simpa using hO, Below.refl _ _, fun u _ _ h => h⟩
    rcases hO.2 with ⟨rfl, hn⟩ | ⟨g, cap, cur, rfl, hb, hh, hnc, hcm, hcs, ht⟩
    · cases A with
      | none => simp [Builtin.append_, run_underlying Tryd.underlying24, sizeOf, typeInfo, hi, Builtin.lenOf, Builtin.firstCells, storeCells]
      | some a => simp [Builtin.append_, run_underlying Tryd.underlying24, sizeOf, typeInfo, hi, Builtin.lenOf, Builtin.firstCells, storeCells, loadCells, loadCellsFrom]
    · cases A with
      | none => simp [Builtin.append_, run_underlying Tryd.underlying24, sizeOf, typeInfo, hi, Builtin.lenOf, Builtin.firstCells, storeCells, hnc]
      | some a => simp [Builtin.append_, run_underlying Tryd.underlying24, sizeOf, typeInfo, hi, Builtin.lenOf, Builtin.firstCells, storeCells, loadCells, loadCellsFrom, hnc]
  · obtain ⟨a, rfl, _⟩ := hy.cells h0
    have hnews : ∀ j u, (nums .u8 (ints ys))[j]? = some u → W.cell? (a.add j) = some u := by rw [nums_cells]; exact cells_of_bs hy
    have hnl : (nums .u8 (ints ys)).length = ys.length := by simp [nums, ints]
    have hql : (ints q).length = q.length := ints_length q
    have hql' : ∀ l : List UInt8, (ints l).length = l.length := ints_length
    have h1 : ∀ u ∈ nums .u8 (ints ys), u.oneCell' = true := by
      intro u hu
      obtain ⟨z, _, rfl⟩ := List.mem_map.1 hu
      rfl
    obtain ⟨v1, w1, hr, hown, hg, _, hat⟩ := run_append_own_at (P := Tryd.prog) W B 24 ty 5 i (.int .u8 0) 1 1 Tryd.underlying24 hi hz hsz hby rfl (by omega) v (ints q).length (nums .u8 (ints q)) hO a ys.length c (nums .u8 (ints ys)) (by rw [hnl, Nat.mul_one]) hnews h1 (by unfold maxLen; omega) (by omega) hB
    have hob : Ob B w1 v1 (q ++ ys) := by
      have e1 : (ints q).length + ys.length = (ints (q ++ ys)).length := by simp [ints]
      have e2 : nums .u8 (ints q) ++ nums .u8 (ints ys) = nums .u8 (ints (q ++ ys)) := by simp [nums, ints]
      rw [e1, e2] at hown
      exact hown
    refine ⟨v1, w1, hr, hob, (Below.refl B W).grown hg hB (own_base hO), fun u q' hq' hu => ?_⟩
    by_cases hne : u.ownBlock = none ∨ v.ownBlock ≠ u.ownBlock
    · refine World.ownsRow.kept hu hg ?_
      rcases hne with h | h
      · exact .inl h
      · exact .inr (fun e => h e.symm)
    · have hub : u.ownBlock ≠ none := fun e => hne (.inl e)
      have hvu : v.ownBlock = u.ownBlock := by
        by_cases h : v.ownBlock = u.ownBlock
        · exact h
        · exact absurd (.inr h) hne
      rcases hu.2 with ⟨rfl, _⟩ | ⟨g, cap, cur, rfl, hb, hh, hnc, hcm, hcs, ht⟩
      · exact absurd rfl hub
      rcases hO.2 with ⟨rfl, _⟩ | ⟨g', cap', cur', rfl, hb', hh', hnc', hcm', hcs', ht'⟩
      · exact absurd hvu.symm hub
      have hgg : g' = g := by simpa [Value.ownBlock] using hvu
      subst hgg
      rw [hh] at hh'
      cases hh'
      obtain rfl : cap = cap' := by omega
      by_cases hroom : (ints q).length + ys.length ≤ cap
      · have hqq := hql' q'
        have hr2 := run_append_room (P := Tryd.prog) W 24 ty 5 i Tryd.underlying24 hi g' (ints q).length cap cur hh a ys.length c (nums .u8 (ints ys)) (by rw [hnl, hsz, Nat.mul_one]) hnews h1 hroom (by rw [hsz, hnl, hcs, Nat.mul_one, Nat.mul_one]; exact hroom)
        rw [hr2] at hr
        injection hr with _ hw
        subst hw
        refine ⟨hu.1, .inr ⟨g', cap, _, rfl, hb, setRow_heap _ _ _ _ _ _ hh, hnc, hcm, ?_, ?_⟩⟩
        · have hcl : cur.toList.length = cap := by simp [hcs]
          rw [hsz, Nat.mul_one, List.size_toArray, List.length_append, List.length_append, List.length_take, List.length_drop, hcl, hnl]
          omega
        · have hcl : cur.toList.length = cap := by simp [hcs]
          show List.take ((ints q').length * 1) (cur.toList.take ((ints q).length * i.size) ++ nums .u8 (ints ys) ++ _) = _
          rw [hsz, Nat.mul_one, List.append_assoc, List.take_append_of_le_length (by rw [List.length_take, hcl]; omega), List.take_take, Nat.min_eq_left (by omega)]
          rw [Nat.mul_one] at ht
          exact ht
      · have hr2 := run_append_grow (P := Tryd.prog) W 24 ty 5 i (.int .u8 0) Tryd.underlying24 hi hz ⟨g', 0, none⟩ (ints q).length cap (nums .u8 (ints q)) (by rw [hsz, Nat.mul_one, nums_length]) (fun j u' hu' => hO.cells (g := g') rfl j u' hu') a ys.length c (nums .u8 (ints ys)) (by rw [hnl, hsz, Nat.mul_one]) hnews (by omega) (by omega) (growslice_fits (by omega) (by rw [hby]; omega))
        rw [hr2] at hr
        injection hr with _ hw
        subst hw
        exact Ob.ext hu (((Ext.refl W).drew).alloc _)
theorem Ob.lower {B B' : Nat} {w : World} {v : Value} {al : List UInt8} (h : Ob B w v al) (hle : B' ≤ B) : Ob B' w v al := own_less h hle
/-- append onto an empty row without room: new memory, or nothing at all -/
theorem run_copyOb {B b : Nat} {W : World} (ty : TypeId) {ys : List UInt8} {A : Option Addr} {c : Nat} (hO : Ob B W (.slice (some ⟨b, 0, none⟩) 0 0) []) (hy : Bs W A ys.length ys) (hB : B ≤ W.heap.size) (hl : ys.length ≤ 100000000000000) :
    ∃ v1 w1, (Builtin.append_ #[24, 24] ty #[.slice (some ⟨b, 0, none⟩) 0 0, .slice A ys.length c]).run Tryd.prog W = .ok v1 w1 ∧ Ext W w1 ∧ Ob B w1 v1 ys := by
  obtain ⟨i, hi, hz, hsz, hby⟩ := i5
  rcases Nat.eq_zero_or_pos ys.length with h0 | h0
  · obtain rfl : ys = [] := List.eq_nil_of_length_eq_zero h0
    refine ⟨_, W, ?_, Ext.refl W, hO⟩
    cases A with
    | none => simp [Builtin.append_, run_underlying Tryd.underlying24, sizeOf, typeInfo, hi, Builtin.lenOf, Builtin.firstCells, storeCells]
    | some a => simp [Builtin.append_, run_underlying Tryd.underlying24, sizeOf, typeInfo, hi, Builtin.lenOf, Builtin.firstCells, storeCells, loadCells, loadCellsFrom]
  · obtain ⟨v1, w1, hr, hO1, _⟩ := run_app2 ty (c := c) hO hy hB (by simp; omega)
    obtain ⟨a, rfl, _⟩ := hy.cells h0
    refine ⟨v1, w1, hr, ?_, by simpa using hO1⟩
    have hnl : (nums .u8 (ints ys)).length = ys.length := by simp [nums, ints]
    have hr2 := run_append_grow (P := Tryd.prog) W 24 ty 5 i (.int .u8 0) Tryd.underlying24 hi hz ⟨b, 0, none⟩ 0 0 [] (by simp) (fun j u hu => by simp at hu) a ys.length c (nums .u8 (ints ys)) (by rw [hnl, hsz, Nat.mul_one]) (by rw [nums_cells]; exact cells_of_bs hy) (by omega) (by omega) (growslice_fits (by omega) (by rw [hby]; omega))
    rw [hr2] at hr
    injection hr with _ hw
    subst hw
    exact ((Ext.refl W).drew).alloc _
set_option maxHeartbeats 2000000 in
set_option maxRecDepth 100000 in
theorem copied2_calls (w : World) (A : Option Addr) (c : Nat) (bs : List UInt8) (hx : Bs w A bs.length bs) (hc : bs.length ≤ c) (hl : bs.length ≤ 100000000000000) :
    Calls Tryd.prog 13 #[.slice A bs.length c] w (fun e w' => ∃ g c', e = .returned (.tuple #[.slice (some ⟨g, 0, none⟩) bs.length c', .slice (some ⟨g, 0, none⟩) (bs.length + 2) c']) ∧ w.heap.size ≤ g ∧ bs.length + 2 ≤ c' ∧ Bs w' (some ⟨g, 0, none⟩) (bs.length + 2) (bs ++ [90, 165]) ∧ Ext w w' ∧ ∃ cur : List Value, bs.length + 2 ≤ cur.length ∧ Row w' g cur 5) := by
  have HX := Aside0.mk hx
  clear hx
  go_enter Tryd.func13, Tryd.ntmps13
  go_wp2_with (with_reducible refine gate_dst (N := 7) rfl ?_; refine Aside0.out ?_)
  refine Aside0.mk ?_
  refine ob_row (w := w) rfl _ _ (.slice (some ⟨w.heap.size, 0, none⟩) 0 0) [] bs A c rfl rfl rfl (Ob.made w) (HX.out.ext ((Ext.refl w).alloc _)) ((Ext.refl w).alloc _) (by simp; omega) ?_
  intro v1 w1 hO1 hE1
  have HO1 := Aside0.mk (show Ob w.heap.size w1 v1 bs from hO1)
  have HE1 := Aside0.mk hE1
  clear hO1 hE1
  go_wp2_with (with_reducible refine gate_dst (N := 10) rfl ?_; refine Aside0.out ?_)
  refine Aside0.mk ?_
  have hEm : Ext w1 (w1.alloc (.cells #[.int .u8 90, .int .u8 165] 5)) := (Ext.refl _).alloc _
  refine ob_row (w := w) rfl _ _ v1 bs [90, 165] (some ⟨w1.heap.size, 0, none⟩) 2 rfl rfl rfl (HO1.out.ext hEm) (Bs.row (Row.alloc w1 ([90, 165].map cell) 5) rfl (by simp)) (HE1.out.trans hEm) (by simp; omega) ?_
  intro v2 w2 hO2 hE2
  obtain ⟨A2, c2, rfl, hc2, hb2⟩ := hO2.open
  have hA : ∃ g, A2 = some ⟨g, 0, none⟩ ∧ w.heap.size ≤ g ∧ ∃ cur : List Value, bs.length + 2 ≤ cur.length ∧ Row w2 g cur 5 := by
    rcases hO2.2 with ⟨he, h0⟩ | ⟨g, cap, cur, he, hg, hh, hnc, _, hcs, _⟩
    · rw [ints_length] at h0; simp at h0
    · injection he with ha _ _
      exact ⟨g, ha, hg, cur.toList, by rw [ints_length] at hnc; simp at hnc; simp [hcs]; omega, by unfold Row; exact hh⟩
  obtain ⟨g, rfl, hg, HCU⟩ := hA
  have hl2 : (bs ++ [90, 165]).length = bs.length + 2 := by simp
  rw [hl2] at hc2 hb2 ⊢
  have HB2 := Aside0.mk hb2
  have HE2 := Aside0.mk hE2
  obtain ⟨i5, hi5, _, hsz, _⟩ := i5
  have hcut := cut_to (P := Tryd.prog) 24 5 .i64 Tryd.underlying24 hi5 (some ⟨g, 0, none⟩) (bs.length + 2) c2 (bs.length : Int) (by omega) (by omega) hc2
  rw [Int.toNat_natCast] at hcut
  clear hO2 hE2 hb2 hEm hl2
  go_wp2_with fail
  go_ret2
  exact ⟨g, c2, rfl, hg, hc2, HB2.out, HE2.out, HCU⟩
end Go.Proofs.YtnkhhnfmijljbaaDoor
set_option linter.unusedVariables false
set_option linter.unusedSimpArgs false
namespace Go.Proofs.YtnkhhnfmijljbaaDoor
open Go.RowKit Go.Proofs.YtnkhhnfmijljbaaDoorW.PrintWords Go.Proofs.YtnkhhnfmijljbaaDoorW.PrintLast Go.Proofs.YtnkhhnfmijljbaaDoorW.PrintMore
open Extern.Stop (cell)

theorem wanted_free {o : Oper} (h : o.guard = none) (y : Nat → Option Bool) : Region.wanted o y = true := by
  unfold Region.wanted; rw [h]
theorem Ob.form9 {B : Nat} {w : World} {v : Value} {al : List UInt8} (h : Ob B w v al) : ∃ A c, v = .slice A al.length c ∧ al.length ≤ c ∧ Bs w A al.length al ∧ ∀ ad, A = some ad → B ≤ ad.block := by
  obtain ⟨A, c, e, hc, hb⟩ := h.open
  refine ⟨A, c, e, hc, hb, fun ad ha => own_base h ad.block ?_⟩
  rw [e, ha]
  rfl
def Sp (B : Nat) (q : List UInt8) (w w' : World) : Prop := Below B w w' ∧ ∀ u q', q'.length ≤ q.length → Ob B w u q' → Ob B w' u q'
/-- the step s writes behind the bytes q of a row of the region's own; every other step makes at most new memory -/
def RelI (s B : Nat) (q : List UInt8) (i : Nat) (w w' : World) : Prop := if i = s then Sp B q w w' else Ext w w'
section
variable {s B : Nat} {q : List UInt8} {i : Nat}
theorem relI_ne (h : i ≠ s) : RelI s B q i = Ext := by funext w w'; simp [RelI, h]
theorem relI_self : RelI s B q s = Sp B q := by funext w w'; simp [RelI]
theorem relI_refl (i : Nat) (w : World) : RelI s B q i w w := by
  by_cases h : i = s
  · subst h; rw [relI_self]; exact ⟨Below.refl _ _, fun _ _ _ h => h⟩
  · rw [relI_ne h]; exact Ext.refl w
theorem relI_ob {w w' : World} {u : Value} {q' : List UInt8} (hR : RelI s B q i w w') (hl : q'.length ≤ q.length) (h : Ob B w u q') : Ob B w' u q' := by
  by_cases hi : i = s
  · subst hi; rw [relI_self] at hR; exact hR.2 u q' hl h
  · rw [relI_ne hi] at hR; exact h.ext hR
theorem relI_ext {w0 w w' : World} (hB : B = w0.heap.size) (h : Ext w0.drew w) (hR : RelI s B q i w w') : Ext w0.drew w' := by
  by_cases hi : i = s
  · subst hi; rw [relI_self] at hR
    have := hR.1
    rw [hB] at this
    exact Below.trans h this
  · rw [relI_ne hi] at hR; exact h.trans hR
end
def ptrsN (gs : Nat → Nat) (k : Nat) : List Value := [if 0 < k then .pointer (some ⟨gs 0, 0, none⟩) else .pointer none, if 1 < k then .pointer (some ⟨gs 1, 0, none⟩) else .pointer none, if 2 < k then .pointer (some ⟨gs 2, 0, none⟩) else .pointer none, if 3 < k then .pointer (some ⟨gs 3, 0, none⟩) else .pointer none]
theorem ptrsN_set (gs : Nat → Nat) (k g : Nat) (h : k < 4) : (ptrsN gs k).set k (.pointer (some ⟨g, 0, none⟩)) = ptrsN (upd gs k g) (k + 1) := by
  match k, h with
  | 0, _ | 1, _ | 2, _ | 3, _ => rfl
theorem ptrsN_some (gs : Nat → Nat) (k j : Nat) (h : j < 4) : ∃ y, (ptrsN gs k)[j]? = some y := ⟨_, List.getElem?_eq_getElem (show j < 4 from h)⟩
theorem ptrsN_at (gs : Nat → Nat) (k : Nat) (h : k < 4) : (ptrsN gs (k + 1))[k]? = some (.pointer (some ⟨gs k, 0, none⟩)) := by
  match k, h with
  | 0, _ | 1, _ | 2, _ | 3, _ => rfl
theorem sum_take_succ (l : List Nat) (k : Nat) (h : k < l.length) : (l.take (k + 1)).sum = (l.take k).sum + l[k] := by
  rw [List.take_succ_eq_append_getElem h, List.sum_append]; simp
theorem sum_take_le (l : List Nat) (k : Nat) : (l.take k).sum ≤ l.sum := by
  conv => rhs; rw [← List.take_append_drop k l, List.sum_append]
  omega
set_option maxHeartbeats 60000000 in
set_option maxRecDepth 100000 in
theorem shaStates_calls (w : World) (P : Option Addr) (pc : Nat) (ops : List OpD) (hK : KTab w) (hF : FTab w) (hL : LTab w) (hR : RTab w) (hp : OpsR w P ops) (hpc : ops.length ≤ pc) (hpl : (ops.map fun x => x.b.length).sum ≤ 1048576) (hpn : ops.length ≤ 1048576) :
    Calls Tryd.prog 7 #[.slice P ops.length pc] w (fun e w' => e = .returned (.bool true) ∧ Below w.heap.size w w') := by
  have HK := Aside0.mk hK
  have HF := Aside0.mk hF
  have HL := Aside0.mk hL
  have HR := Aside0.mk hR
  have HP := Aside0.mk hp
  clear hK hF hL hR hp
  go_enter Tryd.func7, Tryd.ntmps7
  go_wp2_with fail
  refine (awake_calls w HK.out HF.out HL.out).mono ?_
  rintro e w1 ⟨rfl, hB1⟩
  have hE1 : Ext w w1 := hB1
  obtain ⟨S, hS⟩ : ∃ S, S = w1.heap.size := ⟨_, rfl⟩
  have hwS : w.heap.size ≤ S := by rw [hS]; exact hE1.size
  have hrS : Row (w1.alloc (.cells (ptrsN (fun _ => 0) 0).toArray 45)) S (ptrsN (fun _ => 0) 0) 45 := by rw [hS]; exact Row.alloc w1 _ 45
  have hs1 : (w1.alloc (.cells (ptrsN (fun _ => 0) 0).toArray 45)).heap.size = S + 1 := by rw [hS]; simp
  have HS1 := Aside0.mk (hrS.alloc_other (.cells (slcs (fun _ => none) (fun _ => 0) (fun _ => [])).toArray 46))
  have HB1 := Aside0.mk (show Row ((w1.alloc (.cells (ptrsN (fun _ => 0) 0).toArray 45)).alloc (.cells (slcs (fun _ => none) (fun _ => 0) (fun _ => [])).toArray 46)) (S + 1) (slcs (fun _ => none) (fun _ => 0) (fun _ => [])) 46 by rw [← hs1]; exact Row.alloc _ _ 46)
  have HE1 := Aside0.mk ((hE1.alloc (.cells (ptrsN (fun _ => 0) 0).toArray 45)).alloc (.cells (slcs (fun _ => none) (fun _ => 0) (fun _ => [])).toArray 46))
  clear hB1 hE1 hrS hs1
  go_wp2_with fail
  rw [← hS]
  clear hS
  go_loopw [5] (fun i wr => ∃ (k : Nat) (gs : Nat → Nat), k ≤ 4 ∧ i = .int .i64 k ∧ Ext w wr ∧ Row wr S (ptrsN gs k) 45 ∧ Row wr (S + 1) (slcs (fun _ => none) (fun _ => 0) (fun _ => [])) 46 ∧ (∀ j, j < k → St wr (gs j) [] 0 ∧ S + 1 < gs j) ∧ (∀ i j, i < k → j < k → i ≠ j → gs i ≠ gs j)) (fun i _ => 4 - (intOf i).toNat)
  case atStart => exact ⟨0, fun _ => 0, by omega, rfl, HE1.out, HS1.out, HB1.out, fun j hj => by omega, fun i j hi => by omega⟩
  case round =>
    obtain ⟨k, gs, hk, rfl, hE, hS, hB, hst, hne⟩ := hrel
    by_cases hlt : k < 4
    · have HE := Aside0.mk hE
      have HS := Aside0.mk hS
      have HB := Aside0.mk hB
      have HST := Aside0.mk hst
      have HNE := Aside0.mk hne
      have b4 : (0 : Int) ≤ k ∧ (k : Int) < 4 := by omega
      clear hE hS hB hst hne
      go_wp2_with fail
      refine (new_calls wr (HF.out.ext HE.out)).mono ?_
      rintro e w2 ⟨rfl, hE2, hsz2, hst2⟩
      obtain ⟨g, hg⟩ : ∃ g, g = wr.heap.size := ⟨_, rfl⟩
      rw [← hg] at hst2 ⊢
      have hgS : S + 1 < g := by rw [hg]; exact HB.out.lt
      have HG := Aside0.mk hg
      have HE2 := Aside0.mk hE2
      have HS2 := Aside0.mk (HS.out.ext hE2)
      have HST2 := Aside0.mk hst2
      obtain ⟨y, hy⟩ := ptrsN_some gs k k hlt
      have cy := HS2.out.cell hy
      have cf := HS2.out.free k
      clear hE2 hsz2 hst2 hg hy
      go_wp2
      go_roundw
      case measure => simp [intOf]; omega
      case rel =>
        have hO : Only w2 S (w2.setCell ⟨S, k, none⟩ (.pointer (some ⟨g, 0, none⟩))) := (Only.refl w2 S).set k _
        have hgk : ∀ j, j < k → gs j ≠ g := fun j hj => by rw [HG.out]; have := (HST.out j hj).1.choose_spec.2.lt; omega
        refine ⟨k + 1, upd gs k g, by omega, by simp, (HE.out.trans HE2.out).setCell (p := ⟨S, k, none⟩) hwS _, ?_, (HB.out.ext HE2.out).other _ _ (by show S + 1 ≠ S; omega), fun j hj => ?_, fun i j hi hj hij => ?_⟩
        · rw [← ptrsN_set gs k g hlt]; exact HS2.out.set k _
        · by_cases hjk : j = k
          · subst hjk; rw [upd_self]; exact ⟨HST2.out.only hO (by omega), hgS⟩
          · rw [upd_ne _ _ _ _ hjk]
            have h := HST.out j (by omega)
            exact ⟨(h.1.ext HE2.out).only hO (by omega), h.2⟩
        · by_cases hik : i = k
          · subst hik
            rw [upd_self, upd_ne _ _ _ _ (fun e => hij e.symm)]
            exact (hgk j (by omega)).symm
          · rw [upd_ne _ _ _ _ hik]
            by_cases hjk : j = k
            · subst hjk; rw [upd_self]; exact hgk i (by omega)
            · rw [upd_ne _ _ _ _ hjk]; exact HNE.out i j (by omega) (by omega) hij
    · obtain rfl : k = 4 := by omega
      have HT0 := Aside0.mk (show T4 w.heap.size wr S (S + 1) gs (fun _ => []) (fun _ => none) (fun _ => 0) (fun _ => []) from
        ⟨hS, hB, fun i hi => (hst i hi).1, fun i hi => ⟨Nat.le_refl _, Bs.none_ _ _⟩, (fun i hi ad ha => by cases ha), ⟨by omega, by omega, by omega⟩, fun j hj => ⟨by have := (hst j hj).2; omega, by have := (hst j hj).2; omega, by have := (hst j hj).2; omega⟩, fun i j hi hj hij => hne i j hi hj hij⟩)
      have HE := Aside0.mk hE
      obtain ⟨K, hK⟩ : ∃ K, K = S + 1 := ⟨_, rfl⟩
      rw [← hK] at HT0
      clear hE hS hB hst hne
      go_wp2_with fail
      rw [← hK]
      clear hK
      go_loopw [6] (fun i wr => ∃ (k : Nat) (gs : Nat → Nat) (ss : Nat → List UInt8) (A : Nat → Option Addr) (c : Nat → Nat), k ≤ ops.length ∧ i = .int .i64 k ∧ Ext w wr ∧ T4 w.heap.size wr S K gs ss A c ss ∧ ∀ j, j < 4 → (ss j).length ≤ ((ops.map fun x => x.b.length).take k).sum) (fun i _ => ops.length - (intOf i).toNat)
      case atStart => exact ⟨0, gs, _, _, _, by omega, rfl, HE.out, HT0.out, fun j hj => by simp⟩
      case round =>
        obtain ⟨k, gs, ss, A, c, hk, rfl, hE, hT, hlen⟩ := hrel
        have HE := Aside0.mk hE
        have HT := Aside0.mk hT
        have HLN := Aside0.mk hlen
        by_cases hlt : k < ops.length
        · obtain ⟨ad, rfl, hop⟩ := (HP.out.ext hE) k hlt
          have hop0 : OpAt w (ad.add (k * 4)) ops[k] := by
            obtain ⟨ad', e, h⟩ := HP.out k hlt
            cases e
            exact h
          have hsum : ((ops.map fun x => x.b.length).take (k + 1)).sum = ((ops.map fun x => x.b.length).take k).sum + ops[k].b.length := by
            rw [sum_take_succ _ _ (by simpa using hlt)]; simp
          have hsl := sum_take_le (ops.map fun x => x.b.length) (k + 1)
          obtain ⟨x, hx⟩ : ∃ x, x = ops[k] := ⟨_, rfl⟩
          rw [← hx] at hop hop0 hsum
          obtain ⟨m0, hm0⟩ : ∃ m0, m0 = ((ops.map fun x => x.b.length).take k).sum := ⟨_, rfl⟩
          rw [← hm0] at hlen hsum
          have HSUM := Aside0.mk (show ((ops.map fun x => x.b.length).take (k + 1)).sum = m0 + x.b.length from hsum)
          have HLN := Aside0.mk hlen
          have hm1 : m0 + x.b.length ≤ 1048576 := by omega
          obtain ⟨ax, hax⟩ : ∃ ax, ax = ad.add (k * 4) := ⟨_, rfl⟩
          rw [← hax] at hop hop0
          obtain ⟨Ax, cx, hcs, hcx, hbx, hk1, hk2, hk3⟩ := hop0
          have HBX := Aside0.mk hbx
          have HCX := Aside0.mk hcx
          have HCS := Aside0.mk (fun j v hv => cell_ext hE (hcs j v hv) : ∀ j v, (opL x Ax cx)[j]? = some v → wr.cell? (ax.add j) = some v)
          have HAX := Aside0.mk hax
          have hE0 : (0 : Int) ≤ k ∧ (k : Int) < ops.length ∧ (k : Int) < 1048576 := by omega
          have HI1 := Aside0.mk hk1
          have HI2 := Aside0.mk hk2
          have HI3 := Aside0.mk hk3
          clear hE hT hlen hop hsum hsl hx hm0 hax hcs hbx hk1 hk2 hk3 hcx
          go_wp2_with (with_reducible refine gate_dst (N := 39) rfl ?_; refine Aside0.out ?_)
          refine Aside0.mk ?_
          refine wpL_val (.agg (opL x Ax cx).toArray) (w1 := wr) (by rfl) (exec_load_ad 48 rfl ax (by rw [HAX.out]; rfl) (opL x Ax cx) _ HCS.out Tryd.underlying48 rfl (by kernel_rfl)) ?_
          obtain ⟨ol, hol⟩ : ∃ ol, ol = opL x Ax cx := ⟨_, rfl⟩
          rw [← hol]
          have HOL := Aside0.mk hol
          have HOZ := Aside0.mk (show ol.toArray.size = 4 by rw [hol]; rfl)
          have HOO := Aside0.mk (show ol.toArray.all (·.oneCell') = true by rw [hol]; simp [opL, Value.oneCell'])
          clear hol
          go_wp2_with (with_reducible change wpList _ _ _ (Oper.mk _ (Op.store 48 _ _) _ _ _ _ :: _) _ _; refine Aside0.out ?_)
          refine Aside0.mk ?_
          refine wpList_store_row rfl 48 _ _ rfl wr.heap.size ol.toArray rfl rfl 48 #[.int .i64 0, .int .i64 0, .int .i64 0, .slice none 0 0] (heap_alloc_new _ _) (by rw [HOZ.out]; kernel_rfl) (by rw [HOZ.out]; rfl) HOO.out ?_
          obtain ⟨O, hO⟩ : ∃ O, O = wr.heap.size := ⟨_, rfl⟩
          have hEr : Ext wr ((wr.alloc (.cells #[.int .i64 0, .int .i64 0, .int .i64 0, .slice none 0 0] 48)).setRow wr.heap.size ol.toArray) := below_alloc_setRow _ _ _
          refine wpList_world (fun w4 => Ext w w4 ∧ T4 w.heap.size w4 S K gs ss A c ss ∧ Row w4 O (opL x Ax cx) 48) ⟨HE.out.trans hEr, HT.out.ext hEr, by rw [hO, ← HOL.out]; exact alloc_setRow _ _ _ _⟩ ?_
          rintro w4 ⟨hE4, hT4, hO4⟩
          rw [← hO]
          have hwO : w.heap.size ≤ O := by rw [hO]; exact HE.out.size
          have HWO := Aside0.mk (show S < O ∧ K < O ∧ ∀ j, j < 4 → gs j < O by rw [hO]; exact ⟨HT.out.lts.1, HT.out.lts.2.1, HT.out.lts.2.2.1⟩)
          have HAO := Aside0.mk (show ∀ i, i < 4 → ∀ ad, A i = some ad → 0 < (ss i).length → ad.block < O by rw [hO]; exact HT.out.lts.2.2.2)
          have HE4 := Aside0.mk hE4
          have HT4 := Aside0.mk hT4
          have HO4 := Aside0.mk hO4
          have o0 := hO4.cell (show (opL x Ax cx)[0]? = some (.int .i64 x.kind) from rfl)
          have o1 := hO4.cell (show (opL x Ax cx)[1]? = some (.int .i64 x.w) from rfl)
          clear hE4 hT4 hO4 hEr hO
          go_wp2_with fail
          refine (rest_calls x.w 4 w4 HI2.out (by omega) (by omega)).mono ?_
          rintro e w5 ⟨rfl, rfl⟩
          obtain ⟨iw, hi⟩ : ∃ iw : Nat, (iw : Int) = x.w % 4 := ⟨(x.w % 4).toNat, by omega⟩
          have hi4 : iw < 4 := by omega
          rw [← hi]
          have b5 : (0 : Int) ≤ iw ∧ (iw : Int) < 4 := by omega
          clear hi o1
          go_upto_block 4 with fail
          go_cut [9, 10, 11, 12] from 30 to 144 (fun (s9 s10 s11 s12 : Value) wx => ∃ (gs' : Nat → Nat) (ss' : Nat → List UInt8) (A' : Nat → Option Addr) (c' : Nat → Nat), Ext w wx ∧ T4 w.heap.size wx S K gs' ss' A' c' ss' ∧ (∀ j, j < 4 → (ss' j).length ≤ m0 + x.b.length) ∧ Row wx O (opL x Ax cx) 48)
          case first =>
            by_cases hk1 : x.kind = 1
            · go_wp2_with fail
              refine (new_calls w5 (HF.out.ext HE4.out)).mono ?_
              rintro e w6 ⟨rfl, hE6, hsz6, hst6⟩
              have hwg : w.heap.size ≤ w5.heap.size := HE4.out.size
              have HE6 := Aside0.mk hE6
              have HT6 := Aside0.mk (HT4.out.ext hE6)
              have HO6 := Aside0.mk (HO4.out.ext hE6)
              have HST6 := Aside0.mk hst6
              obtain ⟨g, hg⟩ : ∃ g, g = w5.heap.size := ⟨_, rfl⟩
              rw [← hg]
              have HG := Aside0.mk hg
              have cy := HT6.out.rS.cell (ptrs_at gs iw hi4)
              have cf := HT6.out.rS.free iw
              clear hE6 hsz6 hst6 hg
              go_upto_region 19 with fail
              refine wp_world (fun w7 => Ext w w7 ∧ T4 w.heap.size w7 S K (upd gs iw g) (upd ss iw []) A c ss ∧ Row w7 O (opL x Ax cx) 48) ⟨?_, ?_, ?_⟩ ?_
              · exact (HE4.out.trans HE6.out).setCell (p := ⟨S, iw, none⟩) HT4.out.nS.2.1 _
              · exact T4.setS HT4.out HE6.out hi4 (by rw [HG.out]; exact Nat.le_refl _) hwg (by rw [HG.out]; exact HST6.out)
              · exact HO6.out.other _ _ (by have := HWO.out.1; show O ≠ S; omega)
              rintro w7 ⟨hE7, hT7, hO7⟩
              have HE7 := Aside0.mk hE7
              have HT7 := Aside0.mk hT7
              have HO7 := Aside0.mk hO7
              clear cy cf
              have cy := HT7.out.rB.cell (slcs_at A c ss iw hi4)
              have cf := HT7.out.rB.free iw
              clear hE7 hT7 hO7
              go_wp2_with fail
              go_meet
              case rel =>
                refine ⟨upd gs iw g, upd ss iw [], upd A iw none, upd c iw 0, HE7.out.setCell (p := ⟨K, iw, none⟩) HT7.out.nS.2.2 _, T4.setB (A' := none) (c' := 0) (x := []) HT7.out hi4 (Nat.le_refl _) (Bs.none_ _ _) (fun ad ha => by cases ha), fun j hj => ?_, HO7.out.other _ _ (by have := HWO.out.2.1; show O ≠ K; omega)⟩
                by_cases hji : j = iw
                · subst hji; rw [upd_self]; simp
                · rw [upd_ne _ _ _ _ hji]; have := HLN.out j hj; omega
            · by_cases hk2 : x.kind = 2
              · have o3 := HO4.out.cell (show (opL x Ax cx)[3]? = some (.slice Ax x.b.length cx) from rfl)
                go_wp2_with fail
                refine (copied2_calls w5 Ax cx x.b (HBX.out.ext HE4.out) HCX.out (by omega)).mono ?_
                rintro e w6 ⟨g, c2, rfl, hg, hc2, hb2, hE6, cur, hcl, hcur⟩
                have hwg : w.heap.size ≤ g := Nat.le_trans HE4.out.size hg
                have HNE := Aside0.mk (show S ≠ g ∧ K ≠ g ∧ (∀ i, i < 4 → gs i ≠ g) ∧ O ≠ g ∧ (∀ i, i < 4 → ∀ ad, A i = some ad → 0 < (ss i).length → ad.block ≠ g) by
                  obtain ⟨h1, h2, h3, h4⟩ := HT4.out.lts
                  have h5 := HO4.out.lt
                  exact ⟨by omega, by omega, fun i hi => by have := h3 i hi; omega, by omega, fun i hi ad ha hn => by have := h4 i hi ad ha hn; omega⟩)
                have HE6 := Aside0.mk hE6
                have HT6 := Aside0.mk (HT4.out.ext hE6)
                have HO6 := Aside0.mk (HO4.out.ext hE6)
                have hl2 : (x.b ++ [90, 165]).length = x.b.length + 2 := by simp
                have hb2' : Bs w6 (some ⟨g, 0, none⟩) (x.b ++ [90, 165]).length (x.b ++ [90, 165]) := by rw [hl2]; exact hb2
                have hbq := hb2'.take x.b.length (by omega)
                rw [List.take_left' rfl] at hbq
                have HB6 := Aside0.mk hb2'
                have HBQ6 := Aside0.mk hbq
                have HCU6 := Aside0.mk hcur
                have HCL := Aside0.mk hcl
                have cs := HT6.out.rS.cell (ptrs_at gs iw hi4)
                obtain ⟨n2, hn2⟩ : ∃ n2, n2 = x.b.length + 2 := ⟨_, rfl⟩
                rw [← hn2] at HCL hc2 ⊢
                rw [← hn2] at hl2
                have HN2 := Aside0.mk hn2
                have HL2 := Aside0.mk hl2
                clear hE6 hb2 hb2' hbq hcur hcl hg o3 hn2 hl2
                go_wp2_with fail
                refine (write_calls w6 (gs iw) (ss iw) (some ⟨g, 0, none⟩) c2 x.b (HK.out.ext (HE4.out.trans HE6.out)) (HT6.out.st iw hi4) HBQ6.out (by have := HN2.out; omega) (fun ad ha _ => by cases ha; exact (HNE.out.2.2.1 iw hi4).symm) (by have := HLN.out iw hi4; omega)).mono ?_
                rintro e w7 ⟨rfl, hO7, hS7⟩
                have HE7 := Aside0.mk (show Ext w w7 from below_only (HE4.out.trans HE6.out) hO7 (HT6.out.nJ iw hi4).2.2 (HE4.out.trans HE6.out).size)
                have HT7 := Aside0.mk (HT6.out.write hi4 hO7 hS7)
                have HO7 := Aside0.mk (hO7.row HO6.out (by have := HWO.out.2.2 iw hi4; omega))
                have HCU7 := Aside0.mk (hO7.row HCU6.out (HNE.out.2.2.1 iw hi4).symm)
                have HB7 := hO7
                have HBA := Aside0.mk (HB6.out.only hO7 (fun ad ha _ => by cases ha; exact (HNE.out.2.2.1 iw hi4).symm))
                have HBQ := Aside0.mk (HBQ6.out.only hO7 (fun ad ha _ => by cases ha; exact (HNE.out.2.2.1 iw hi4).symm))
                have HBX7 := Aside0.mk (HBX.out.ext HE7.out)
                have HO3 := Aside0.mk (HO7.out.cell (show (opL x Ax cx)[3]? = some (.slice Ax x.b.length cx) from rfl))
                obtain ⟨ag, hag⟩ : ∃ ag : Addr, ag = ⟨g, 0, none⟩ := ⟨_, rfl⟩
                rw [← hag] at HBA HBQ ⊢
                obtain ⟨_, e90, h90⟩ := HBA.out.cell x.b.length (by simp)
                cases e90
                rw [show (x.b ++ [(90 : UInt8), 165]).getD x.b.length 0 = 90 by simp [List.getD]] at h90
                have H90 := Aside0.mk (show w7.cell? (ag.add x.b.length) = some (.int .u8 90) from h90)
                have HAG := Aside0.mk hag
                have b7 : (0 : Int) ≤ x.b.length ∧ (x.b.length : Int) < n2 := by have := HN2.out; omega
                obtain ⟨i5, hi5, _, hsz5, _⟩ := i5
                have hcut := cut_to (P := Tryd.prog) 24 5 .i64 Tryd.underlying24 hi5 (some ag) n2 c2 (x.b.length : Int) (by omega) (by omega) hc2
                rw [Int.toNat_natCast] at hcut
                have HCUT := Aside0.mk hcut
                clear hO7 hS7 HB7 cs hag h90 hi5 hsz5 hcut
                go_wp2_with fail
                refine ext_region 18 [(0, 65), (1, 66), (2, 67), (3, 68), (4, 69), (5, 70), (6, 71), (7, 72), (8, 73), (9, 74), (10, 75), (11, 76), (12, 77), (13, 78), (14, 79), (15, 80), (16, 81), (17, 82)] [0, 1, 2, 3, 4, 5, 6, 7, 8, 9, 10, 11, 12, 13, 14, 15, 16, 17] (fun i w v => match i with | 0 => v = .slice (some ag) n2 c2 | 1 => v = .pointer (some ⟨O, 3, none⟩) | 2 => v = .slice Ax x.b.length cx | 3 => v = .int .i64 x.b.length | 4 => v = .slice (some ag) x.b.length c2 | 5 => v = .pointer (some ⟨O, 3, none⟩) | 6 => v = .slice Ax x.b.length cx | 7 => v = .bool true | 8 => v = .bool false | 9 => v = .bool false | 10 => v = .slice (some ag) n2 c2 | 11 => v = .pointer (some ⟨O, 3, none⟩) | 12 => v = .slice Ax x.b.length cx | 13 => v = .int .i64 x.b.length | 14 => v = .pointer (some (ag.add x.b.length)) | 15 => v = .int .u8 90 | 16 => v = .bool false | 17 => v = .bool false | _ => True) (by kernel_rfl) (by kernel_rfl) (by rfl) rfl ?mono23 ?steps23 ?fin23
                case mono23 =>
                  intro i w w' v h hE
                  match i with
                  | 0 => exact h
                  | 1 => exact h
                  | 2 => exact h
                  | 3 => exact h
                  | 4 => exact h
                  | 5 => exact h
                  | 6 => exact h
                  | 7 => exact h
                  | 8 => exact h
                  | 9 => exact h
                  | 10 => exact h
                  | 11 => exact h
                  | 12 => exact h
                  | 13 => exact h
                  | 14 => exact h
                  | 15 => exact h
                  | 16 => exact h
                  | 17 => exact h
                  | _ + 18 => trivial
                case steps23 =>
                  refine stepE_cons ⟨_, rfl, fun a w hE hH => ?_⟩ ?_
                  ·
                    have e10 : a.tmps[10]? = some (.slice (some ag) n2 c2) := hH.old 10 rfl
                    exact Or.inl ⟨rfl, goodE_move _ rfl (eval_of e10) rfl⟩
                  refine stepE_cons ⟨_, rfl, fun a w hE hH => ?_⟩ ?_
                  ·
                    have e7 : a.tmps[7]? = some (.pointer (some ⟨O, 0, none⟩)) := hH.old 7 rfl
                    exact Or.inl ⟨(rfl), goodE_val (.pointer (some ⟨O, 3, none⟩)) (by simp [execOp, Act.eval, e7, go_sem]) rfl⟩
                  refine stepE_cons ⟨_, rfl, fun a w hE hH => ?_⟩ ?_
                  ·
                    obtain ⟨v66, e66, g66⟩ := hH.dep 1 66 rfl (by kernel_rfl)
                    have q66 : v66 = .pointer (some ⟨O, 3, none⟩) := g66
                    subst q66
                    exact Or.inl ⟨(rfl), goodE_val (.slice Ax x.b.length cx) (by simp [execOp, Act.eval, e66, go_sem, cell_ext ((Ext.to_drew _).trans hE) HO3.out]) rfl⟩
                  refine stepE_cons ⟨_, rfl, fun a w hE hH => ?_⟩ ?_
                  ·
                    obtain ⟨v67, e67, g67⟩ := hH.dep 2 67 rfl (by kernel_rfl)
                    have q67 : v67 = .slice Ax x.b.length cx := g67
                    subst q67
                    exact Or.inl ⟨rfl, goodE_val (.int .i64 x.b.length) (by simp [execOp, Act.eval, e67, go_sem]) rfl⟩
                  refine stepE_cons ⟨_, rfl, fun a w hE hH => ?_⟩ ?_
                  ·
                    obtain ⟨v65, e65, g65⟩ := hH.dep 0 65 rfl (by kernel_rfl)
                    have q65 : v65 = .slice (some ag) n2 c2 := g65
                    subst q65
                    obtain ⟨v68, e68, g68⟩ := hH.dep 3 68 rfl (by kernel_rfl)
                    have q68 : v68 = .int .i64 x.b.length := g68
                    subst q68
                    exact Or.inl ⟨(rfl), goodE_val (.slice (some ag) x.b.length c2) (exec_slice rfl (by simp only [Option.map_some, Option.map_none, eval_of e65, eval_of e68]; exact HCUT.out w)) rfl⟩
                  refine stepE_cons ⟨_, rfl, fun a w hE hH => ?_⟩ ?_
                  ·
                    have e7 : a.tmps[7]? = some (.pointer (some ⟨O, 0, none⟩)) := hH.old 7 rfl
                    exact Or.inl ⟨(rfl), goodE_val (.pointer (some ⟨O, 3, none⟩)) (by simp [execOp, Act.eval, e7, go_sem]) rfl⟩
                  refine stepE_cons ⟨_, rfl, fun a w hE hH => ?_⟩ ?_
                  ·
                    obtain ⟨v70, e70, g70⟩ := hH.dep 5 70 rfl (by kernel_rfl)
                    have q70 : v70 = .pointer (some ⟨O, 3, none⟩) := g70
                    subst q70
                    exact Or.inl ⟨(rfl), goodE_val (.slice Ax x.b.length cx) (by simp [execOp, Act.eval, e70, go_sem, cell_ext ((Ext.to_drew _).trans hE) HO3.out]) rfl⟩
                  refine stepE_cons ⟨_, rfl, fun a w hE hH => ?_⟩ ?_
                  ·
                    obtain ⟨v69, e69, g69⟩ := hH.dep 4 69 rfl (by kernel_rfl)
                    have q69 : v69 = .slice (some ag) x.b.length c2 := g69
                    subst q69
                    obtain ⟨v71, e71, g71⟩ := hH.dep 6 71 rfl (by kernel_rfl)
                    have q71 : v71 = .slice Ax x.b.length cx := g71
                    subst q71
                    exact Or.inl ⟨(rfl), goodE_call rfl #[.slice (some ag) x.b.length c2, .slice Ax x.b.length cx] (by simp [Act.eval, e69, e71]) _ Tryd.func17 (by kernel_rfl) (by kernel_rfl) ((same_calls w (some ag) Ax c2 cx x.b (HBQ.out.ext ((Ext.to_drew _).trans hE)) (HBX7.out.ext ((Ext.to_drew _).trans hE))).mono (fun e w' h => ⟨_, h.1, h.2, rfl⟩))⟩
                  refine stepE_cons ⟨_, rfl, fun a w hE hH => ?_⟩ ?_
                  ·
                    obtain ⟨v72, e72, g72⟩ := hH.dep 7 72 rfl (by kernel_rfl)
                    have q72 : v72 = .bool true := g72
                    subst q72
                    exact Or.inl ⟨rfl, goodE_val (.bool false) (by simp [execOp, Act.eval, e72, go_sem]) rfl⟩
                  refine stepE_cons ⟨_, rfl, fun a w hE hH => ?_⟩ ?_
                  ·
                    obtain ⟨v73, e73, g73⟩ := hH.dep 8 73 rfl (by kernel_rfl)
                    exact Or.inl ⟨rfl, goodE_move v73 rfl (eval_of e73) g73⟩
                  refine stepE_cons ⟨_, rfl, fun a w hE hH => ?_⟩ ?_
                  ·
                    have e10 : a.tmps[10]? = some (.slice (some ag) n2 c2) := hH.old 10 rfl
                    obtain ⟨v74, e74, g74⟩ := hH.dep 9 74 rfl (by kernel_rfl)
                    have q74 : v74 = .bool false := g74
                    subst q74
                    exact Or.inl ⟨wanted_on rfl rfl rfl e74, goodE_move _ rfl (eval_of e10) rfl⟩
                  refine stepE_cons ⟨_, rfl, fun a w hE hH => ?_⟩ ?_
                  ·
                    have e7 : a.tmps[7]? = some (.pointer (some ⟨O, 0, none⟩)) := hH.old 7 rfl
                    obtain ⟨v74, e74, g74⟩ := hH.dep 9 74 rfl (by kernel_rfl)
                    have q74 : v74 = .bool false := g74
                    subst q74
                    exact Or.inl ⟨(wanted_on rfl rfl rfl e74), goodE_val (.pointer (some ⟨O, 3, none⟩)) (by simp [execOp, Act.eval, e7, go_sem]) rfl⟩
                  refine stepE_cons ⟨_, rfl, fun a w hE hH => ?_⟩ ?_
                  ·
                    obtain ⟨v76, e76, g76⟩ := hH.dep 11 76 rfl (by kernel_rfl)
                    have q76 : v76 = .pointer (some ⟨O, 3, none⟩) := g76
                    subst q76
                    obtain ⟨v74, e74, g74⟩ := hH.dep 9 74 rfl (by kernel_rfl)
                    have q74 : v74 = .bool false := g74
                    subst q74
                    exact Or.inl ⟨(wanted_on rfl rfl rfl e74), goodE_val (.slice Ax x.b.length cx) (by simp [execOp, Act.eval, e76, go_sem, cell_ext ((Ext.to_drew _).trans hE) HO3.out]) rfl⟩
                  refine stepE_cons ⟨_, rfl, fun a w hE hH => ?_⟩ ?_
                  ·
                    obtain ⟨v77, e77, g77⟩ := hH.dep 12 77 rfl (by kernel_rfl)
                    have q77 : v77 = .slice Ax x.b.length cx := g77
                    subst q77
                    obtain ⟨v74, e74, g74⟩ := hH.dep 9 74 rfl (by kernel_rfl)
                    have q74 : v74 = .bool false := g74
                    subst q74
                    exact Or.inl ⟨wanted_on rfl rfl rfl e74, goodE_val (.int .i64 x.b.length) (by simp [execOp, Act.eval, e74, e77, go_sem]) rfl⟩
                  refine stepE_cons ⟨_, rfl, fun a w hE hH => ?_⟩ ?_
                  ·
                    obtain ⟨v75, e75, g75⟩ := hH.dep 10 75 rfl (by kernel_rfl)
                    have q75 : v75 = .slice (some ag) n2 c2 := g75
                    subst q75
                    obtain ⟨v78, e78, g78⟩ := hH.dep 13 78 rfl (by kernel_rfl)
                    have q78 : v78 = .int .i64 x.b.length := g78
                    subst q78
                    obtain ⟨v74, e74, g74⟩ := hH.dep 9 74 rfl (by kernel_rfl)
                    have q74 : v74 = .bool false := g74
                    subst q74
                    exact Or.inl ⟨(wanted_on rfl rfl rfl e74), goodE_val (.pointer (some (ag.add x.b.length))) (by simp [execOp, Act.eval, e75, e78, go_sem, b7]) rfl⟩
                  refine stepE_cons ⟨_, rfl, fun a w hE hH => ?_⟩ ?_
                  ·
                    obtain ⟨v79, e79, g79⟩ := hH.dep 14 79 rfl (by kernel_rfl)
                    have q79 : v79 = .pointer (some (ag.add x.b.length)) := g79
                    subst q79
                    obtain ⟨v74, e74, g74⟩ := hH.dep 9 74 rfl (by kernel_rfl)
                    have q74 : v74 = .bool false := g74
                    subst q74
                    exact Or.inl ⟨(wanted_on rfl rfl rfl e74), goodE_val (.int .u8 90) (by simp [execOp, Act.eval, e79, go_sem, cell_ext ((Ext.to_drew _).trans hE) H90.out]) rfl⟩
                  refine stepE_cons ⟨_, rfl, fun a w hE hH => ?_⟩ ?_
                  ·
                    obtain ⟨v80, e80, g80⟩ := hH.dep 15 80 rfl (by kernel_rfl)
                    have q80 : v80 = .int .u8 90 := g80
                    subst q80
                    obtain ⟨v74, e74, g74⟩ := hH.dep 9 74 rfl (by kernel_rfl)
                    have q74 : v74 = .bool false := g74
                    subst q74
                    exact Or.inl ⟨wanted_on rfl rfl rfl e74, goodE_val (.bool false) (by simp [execOp, Act.eval, e80, e74, go_sem]) rfl⟩
                  refine stepE_cons ⟨_, rfl, fun a w hE hH => ?_⟩ ?_
                  ·
                    obtain ⟨v74, e74, g74⟩ := hH.dep 9 74 rfl (by kernel_rfl)
                    have q74 : v74 = .bool false := g74
                    subst q74
                    obtain ⟨v81, e81, g81⟩ := hH.dep 16 81 rfl (by kernel_rfl)
                    have q81 : v81 = .bool false := g81
                    subst q81
                    exact Or.inl ⟨rfl, goodE_pick _ (.bool false) rfl (eval_of e74) (by simp [Act.eval, e81, e74]) rfl⟩
                  exact stepE_nil
                rintro vals wz hE hV
                have k82 : vals 17 = .bool false := hV 17 (by simp) rfl
                simp only [List.map_cons, List.map_nil, putAll, Act.put, List.setIfInBounds_toArray, List.set_cons_zero, List.set_cons_succ, k82]
                have HE8 := Aside0.mk (HE7.out.trans ((Ext.to_drew _).trans hE))
                have HT8a := Aside0.mk (HT7.out.ext ((Ext.to_drew _).trans hE))
                have HO8 := Aside0.mk (HO7.out.ext ((Ext.to_drew _).trans hE))
                have HCU8 := Aside0.mk (HCU7.out.ext ((Ext.to_drew _).trans hE))
                clear hE hV k82
                rw [HAG.out]
                go_wp2_with fail
                go_loopw [11] (fun i wr => ∃ (t : Nat) (L : List Value), t ≤ n2 ∧ i = .int .i64 t ∧ Ext w wr ∧ T4 w.heap.size wr S K gs (upd ss iw (ss iw ++ x.b)) A c ss ∧ Row wr O (opL x Ax cx) 48 ∧ Row wr g L 5 ∧ n2 ≤ L.length) (fun i _ => n2 - (intOf i).toNat)
                case atStart => exact ⟨0, cur, by omega, rfl, HE8.out, HT8a.out, HO8.out, HCU8.out, HCL.out⟩
                case round =>
                  obtain ⟨t, L, ht, rfl, hE, hT, hO, hL, hLl⟩ := hrel
                  by_cases htn : t < n2
                  · obtain ⟨y, hy⟩ : ∃ y, L[t]? = some y := ⟨_, List.getElem?_eq_getElem (by omega)⟩
                    have cy := hL.cell hy
                    have cf := hL.free t
                    have b8 : (0 : Int) ≤ t ∧ (t : Int) < n2 ∧ (t : Int) < 2000000 := by have := HN2.out; omega
                    have HEt := Aside0.mk hE
                    have HTt := Aside0.mk hT
                    have HOt := Aside0.mk hO
                    have HLt := Aside0.mk hL
                    have HLl := Aside0.mk hLl
                    clear hE hT hO hL hLl hy
                    go_wp2
                    go_roundw
                    case rel => exact ⟨t + 1, L.set t (.int .u8 238), by omega, by simp, HEt.out.setCell (p := ⟨g, t, none⟩) hwg _, HTt.out.only ((Only.refl _ g).set t _) HNE.out.1 HNE.out.2.1 HNE.out.2.2.1 HNE.out.2.2.2.2, HOt.out.other _ _ HNE.out.2.2.2.1, HLt.out.set t _, by simpa using HLl.out⟩
                    case measure => simp [intOf]; omega
                  · obtain rfl : t = n2 := by omega
                    have HE9 := Aside0.mk hE
                    have HT8 := Aside0.mk hT
                    have HO9 := Aside0.mk hO
                    have HCB := Aside0.mk (hT.rB.cell (slcs_at A c ss iw hi4))
                    have HO3b := Aside0.mk (hO.cell (show (opL x Ax cx)[3]? = some (.slice Ax x.b.length cx) from rfl))
                    have HBX8 := Aside0.mk (HBX.out.ext hE)
                    obtain ⟨B8, hB8⟩ : ∃ B8, B8 = wr.heap.size := ⟨_, rfl⟩
                    have HB8 := Aside0.mk hB8
                    have HS8 := Aside0.mk (show S < B8 ∧ K < B8 ∧ (∀ j, j < 4 → gs j < B8) by rw [hB8]; exact ⟨hT.lts.1, hT.lts.2.1, hT.lts.2.2.1⟩)
                    clear hE hT hO hL hLl hB8
                    go_wp2_with fail
                    refine exr_tail (RelI 8 B8 (ss iw)) 11 [(0, 92), (1, 93), (2, 94), (3, 95), (4, 96), (5, 97), (6, 98), (7, 99), (8, 100), (9, 101)] [0, 1, 2, 3, 4, 5, 6, 7, 8, 9] (fun i w v => match i with | 0 => v = .int .i64 iw | 1 => ∃ b, v = .slice (some ⟨b, 0, none⟩) 0 0 ∧ Ob B8 w v [] | 2 => v = .int .i64 iw | 3 => v = .pointer (some ⟨K, iw, none⟩) | 4 => v = .slice (A iw) (ss iw).length (c iw) | 5 => Ob B8 w v (ss iw) | 6 => v = .pointer (some ⟨O, 3, none⟩) | 7 => v = .slice Ax x.b.length cx | 8 => Ob B8 w v (ss iw ++ x.b) | 9 => v = .pointer (some ⟨K, iw, none⟩) | _ => True) (by kernel_rfl) (by kernel_rfl) (by rfl) rfl ?re29 ?r029 ?mono29 ?steps29 ?fin29
                    case re29 => exact fun i w w' h k => relI_ext HB8.out h k
                    case r029 => exact fun i w => relI_refl i w
                    case mono29 =>
                      intro i j w w' v hne h hE
                      match j with
                      | 0 => exact h
                      | 1 =>
                        obtain ⟨b, h1, h2⟩ := h
                        exact ⟨b, h1, relI_ob hE (Nat.zero_le _) h2⟩
                      | 2 => exact h
                      | 3 => exact h
                      | 4 => exact h
                      | 5 => exact relI_ob hE (Nat.le_refl _) h
                      | 6 => exact h
                      | 7 => exact h
                      | 8 =>
                        have hi8 : i ≠ 8 := fun e => hne e.symm
                        rw [relI_ne hi8] at hE
                        exact Ob.ext h hE
                      | 9 => exact h
                      | _ + 10 => trivial
                    case steps29 =>
                      refine stepR_cons ⟨_, rfl, fun a w hE hH => ?_⟩ ?_
                      ·
                        have e8 : a.tmps[8]? = some (.int .i64 iw) := hH.old 8 rfl
                        exact Or.inl ⟨rfl, goodR_of (relI_ne (by decide)) <| goodE_move _ rfl (eval_of e8) rfl⟩
                      refine stepR_cons ⟨_, rfl, fun a w hE hH => ?_⟩ ?_
                      ·
                        exact Or.inl ⟨(rfl), goodR_of (relI_ne (by decide)) <| goodE_new (.slice (some ⟨w.heap.size, 0, none⟩) 0 0) (w.alloc (.cells #[] 5)) (by simp [execOp, go_sem]) ((Ext.refl w).alloc _) ⟨_, rfl, (Ob.made w).lower (by rw [HB8.out]; exact hE.size)⟩⟩
                      refine stepR_cons ⟨_, rfl, fun a w hE hH => ?_⟩ ?_
                      ·
                        have e8 : a.tmps[8]? = some (.int .i64 iw) := hH.old 8 rfl
                        exact Or.inl ⟨rfl, goodR_of (relI_ne (by decide)) <| goodE_move _ rfl (eval_of e8) rfl⟩
                      refine stepR_cons ⟨_, rfl, fun a w hE hH => ?_⟩ ?_
                      ·
                        have e4 : a.tmps[4]? = some (.pointer (some ⟨K, 0, none⟩)) := hH.old 4 rfl
                        obtain ⟨v94, e94, g94⟩ := hH.dep 2 94 rfl (by kernel_rfl)
                        have q94 : v94 = .int .i64 iw := g94
                        subst q94
                        exact Or.inl ⟨(rfl), goodR_of (relI_ne (by decide)) <| goodE_val (.pointer (some ⟨K, iw, none⟩)) (by simp [execOp, Act.eval, e4, e94, go_sem, b5]) rfl⟩
                      refine stepR_cons ⟨_, rfl, fun a w hE hH => ?_⟩ ?_
                      ·
                        obtain ⟨v95, e95, g95⟩ := hH.dep 3 95 rfl (by kernel_rfl)
                        have q95 : v95 = .pointer (some ⟨K, iw, none⟩) := g95
                        subst q95
                        exact Or.inl ⟨(rfl), goodR_of (relI_ne (by decide)) <| goodE_val (.slice (A iw) (ss iw).length (c iw)) (by simp [execOp, Act.eval, e95, go_sem, cell_ext ((Ext.to_drew _).trans hE) HCB.out]) rfl⟩
                      refine stepR_cons ⟨_, rfl, fun a w hE hH => ?_⟩ ?_
                      ·
                        obtain ⟨v93, e93, g93⟩ := hH.dep 1 93 rfl (by kernel_rfl)
                        obtain ⟨v96, e96, g96⟩ := hH.dep 4 96 rfl (by kernel_rfl)
                        have q96 : v96 = .slice (A iw) (ss iw).length (c iw) := g96
                        subst q96
                        obtain ⟨b, rfl, hO93⟩ := g93
                        obtain ⟨v1, w1, hr, h1, h2⟩ := run_copyOb 24 (c := c iw) hO93 ((HT8.out.bb iw hi4).2.ext ((Ext.to_drew _).trans hE)) (by rw [HB8.out]; exact hE.size) (by have := HLN.out iw hi4; omega)
                        exact Or.inl ⟨(rfl), goodR_of (relI_ne (by decide)) <| goodE_new v1 w1 (exec_append (s := .tmp 93) (x := .tmp 96) (t := 24) (u := 24) rfl (by rw [eval_of e93, eval_of e96]; exact hr)) h1 h2⟩
                      refine stepR_cons ⟨_, rfl, fun a w hE hH => ?_⟩ ?_
                      ·
                        have e7 : a.tmps[7]? = some (.pointer (some ⟨O, 0, none⟩)) := hH.old 7 rfl
                        exact Or.inl ⟨(rfl), goodR_of (relI_ne (by decide)) <| goodE_val (.pointer (some ⟨O, 3, none⟩)) (by simp [execOp, Act.eval, e7, go_sem]) rfl⟩
                      refine stepR_cons ⟨_, rfl, fun a w hE hH => ?_⟩ ?_
                      ·
                        obtain ⟨v98, e98, g98⟩ := hH.dep 6 98 rfl (by kernel_rfl)
                        have q98 : v98 = .pointer (some ⟨O, 3, none⟩) := g98
                        subst q98
                        exact Or.inl ⟨(rfl), goodR_of (relI_ne (by decide)) <| goodE_val (.slice Ax x.b.length cx) (by simp [execOp, Act.eval, e98, go_sem, cell_ext ((Ext.to_drew _).trans hE) HO3b.out]) rfl⟩
                      refine stepR_cons ⟨_, rfl, fun a w hE hH => ?_⟩ ?_
                      ·
                        obtain ⟨v97, e97, g97⟩ := hH.dep 5 97 rfl (by kernel_rfl)
                        obtain ⟨v99, e99, g99⟩ := hH.dep 7 99 rfl (by kernel_rfl)
                        have q99 : v99 = .slice Ax x.b.length cx := g99
                        subst q99
                        obtain ⟨v1, w1, hr, h1, h2, h3⟩ := run_app2 24 (c := cx) g97 (HBX8.out.ext ((Ext.to_drew _).trans hE)) (by rw [HB8.out]; exact hE.size) (by have := HLN.out iw hi4; omega)
                        exact Or.inl ⟨(rfl), goodR_new v1 w1 (exec_append (s := .tmp 97) (x := .tmp 99) (t := 24) (u := 24) rfl (by rw [eval_of e97, eval_of e99]; exact hr)) (by rw [relI_self]; exact ⟨h2, h3⟩) h1⟩
                      refine stepR_cons ⟨_, rfl, fun a w hE hH => ?_⟩ ?_
                      ·
                        have e4 : a.tmps[4]? = some (.pointer (some ⟨K, 0, none⟩)) := hH.old 4 rfl
                        obtain ⟨v92, e92, g92⟩ := hH.dep 0 92 rfl (by kernel_rfl)
                        have q92 : v92 = .int .i64 iw := g92
                        subst q92
                        exact Or.inl ⟨(rfl), goodR_of (relI_ne (by decide)) <| goodE_val (.pointer (some ⟨K, iw, none⟩)) (by simp [execOp, Act.eval, e4, e92, go_sem, b5]) rfl⟩
                      exact stepR_nil
                    refine ⟨⟨none, .store 24 (.tmp 101) (.tmp 100), _, _, _, none⟩, rfl, ?_⟩
                    rintro vals wz hE hV
                    have k100 : Ob B8 wz (vals 8) (ss iw ++ x.b) := hV 8 (by simp) rfl
                    have k101 : vals 9 = .pointer (some ⟨K, iw, none⟩) := hV 9 (by simp) rfl
                    refine ⟨wanted_free rfl _, ?_⟩
                    intro KK hKK
                    simp only [List.map_cons, List.map_nil, putAll, Act.put, List.setIfInBounds_toArray, List.set_cons_zero, List.set_cons_succ, k101]
                    obtain ⟨A9, c9, e9, hc9, hb9, hbs9⟩ := Ob.form9 k100
                    rw [e9]
                    have hEz : Ext wr wz := (Ext.to_drew _).trans hE
                    have hTz := HT8.out.ext hEz
                    have cy := hTz.rB.cell (slcs_at A c ss iw hi4)
                    have cf := hTz.rB.free iw
                    refine finE_skip (w1 := wz.setCell ⟨K, iw, none⟩ (.slice A9 (ss iw ++ x.b).length c9)) (by simp [execOp, Act.eval, go_sem, cy, cf]) (hKK _ _ ?_)
                    have HEz := Aside0.mk (HE9.out.trans hEz)
                    have HTz := Aside0.mk hTz
                    have HOz := Aside0.mk (HO9.out.ext hEz)
                    have HB9 := Aside0.mk hb9
                    have HC9 := Aside0.mk hc9
                    have HBS9 := Aside0.mk hbs9
                    clear hE hV k100 k101 cy cf hEz hTz hb9 hc9 hbs9 e9
                    go_wp2_with fail
                    go_meet
                    case rel =>
                      refine ⟨gs, upd ss iw (ss iw ++ x.b), upd A iw A9, upd c iw c9, HEz.out.setCell (p := ⟨K, iw, none⟩) HTz.out.nS.2.2 _, T4.setB HTz.out hi4 HC9.out HB9.out (fun ad ha _ => ?_), fun j hj => ?_, HOz.out.other _ _ (by have := HWO.out.2.1; show O ≠ K; omega)⟩
                      · have h1 := HBS9.out ad ha
                        have h2 := HS8.out
                        exact ⟨by omega, by omega, fun j hj => by have := h2.2.2 j hj; omega⟩
                      · by_cases hji : j = iw
                        · subst hji; rw [upd_self, List.length_append]; have := HLN.out j hi4; omega
                        · rw [upd_ne _ _ _ _ hji]; have := HLN.out j hj; omega
              · by_cases hk5 : x.kind = 5
                · have o2 := HO4.out.cell (show (opL x Ax cx)[2]? = some (.int .i64 x.tt) from rfl)
                  go_wp2_with fail
                  refine (rest_calls x.tt 4 w5 HI3.out (by omega) (by omega)).mono ?_
                  rintro e w6 ⟨rfl, rfl⟩
                  obtain ⟨t, ht⟩ : ∃ t : Nat, (t : Int) = x.tt % 4 := ⟨(x.tt % 4).toNat, by omega⟩
                  have ht4 : t < 4 := by omega
                  rw [← ht]
                  have b6 : (0 : Int) ≤ t ∧ (t : Int) < 4 := by omega
                  have cz := HT4.out.rS.cell (ptrs_at gs iw hi4)
                  clear ht o2
                  go_wp2_with fail
                  refine (copy_calls _ (gs iw) (ss iw) _ (HT4.out.st iw hi4)).mono ?_
                  rintro e w7 ⟨rfl, hE6, hsz6, hst6⟩
                  clear cz
                  have hwg : w.heap.size ≤ w6.heap.size := HE4.out.size
                  have HE6 := Aside0.mk hE6
                  have HT6 := Aside0.mk (HT4.out.ext hE6)
                  have HO6 := Aside0.mk (HO4.out.ext hE6)
                  have HST6 := Aside0.mk hst6
                  obtain ⟨g, hg⟩ : ∃ g, g = w6.heap.size := ⟨_, rfl⟩
                  rw [← hg]
                  have HG := Aside0.mk hg
                  have cy := HT6.out.rS.cell (ptrs_at gs t ht4)
                  have cf := HT6.out.rS.free t
                  clear hE6 hsz6 hst6 hg
                  go_upto_region 33 with fail
                  refine wp_world (fun w8 => Ext w w8 ∧ T4 w.heap.size w8 S K (upd gs t g) (upd ss t (ss iw)) A c ss ∧ Row w8 O (opL x Ax cx) 48) ⟨?_, ?_, ?_⟩ ?_
                  · exact (HE4.out.trans HE6.out).setCell (p := ⟨S, t, none⟩) HT4.out.nS.2.1 _
                  · exact T4.setS HT4.out HE6.out ht4 (by rw [HG.out]; exact Nat.le_refl _) hwg (by rw [HG.out]; exact HST6.out)
                  · exact HO6.out.other _ _ (by have := HWO.out.1; show O ≠ S; omega)
                  rintro w8 ⟨hE7, hT7, hO7⟩
                  have HE7 := Aside0.mk hE7
                  have HT7 := Aside0.mk hT7
                  have HO7 := Aside0.mk hO7
                  clear cy cf
                  have cx' := HT7.out.rB.cell (slcs_at A c ss iw hi4)
                  have cy := HT7.out.rB.cell (slcs_at A c ss t ht4)
                  have cf := HT7.out.rB.free t
                  clear hE7 hT7 hO7
                  go_wp2_with fail
                  go_meet
                  case rel =>
                    refine ⟨upd gs t g, upd ss t (ss iw), upd A t (A iw), upd c t (c iw), HE7.out.setCell (p := ⟨K, t, none⟩) HT7.out.nS.2.2 _, T4.setB (x := ss iw) HT7.out ht4 (HT7.out.bb iw hi4).1 (HT7.out.bb iw hi4).2 (HT7.out.ap iw hi4), fun j hj => ?_, HO7.out.other _ _ (by have := HWO.out.2.1; show O ≠ K; omega)⟩
                    by_cases hji : j = t
                    · subst hji; rw [upd_self]; have := HLN.out iw hi4; omega
                    · rw [upd_ne _ _ _ _ hji]; have := HLN.out j hj; omega
                · go_wp2_with fail
                  go_meet
                  case rel => exact ⟨gs, ss, A, c, HE4.out, HT4.out, fun j hj => by have := HLN.out j hj; omega, HO4.out⟩
          case rest =>
            obtain ⟨gs', ss', A', c', hE, hT, hln, hO⟩ := hcut
            have HE8 := Aside0.mk hE
            have HT8 := Aside0.mk hT
            have HLN8 := Aside0.mk hln
            have HLS := Aside0.mk (show (ss' iw).length ≤ 10000000000000 by have := hln iw hi4; omega)
            have cs := hT.rS.cell (ptrs_at gs' iw hi4)
            have cb := hT.rB.cell (slcs_at A' c' ss' iw hi4)
            have o0' := hO.cell (show (opL x Ax cx)[0]? = some (.int .i64 x.kind) from rfl)
            clear hE hT hln hO o0
            go_wp2_with fail
            refine (len_calls wc (gs' iw) (ss' iw) _ (HT8.out.st iw hi4)).mono ?_
            rintro e w8 ⟨rfl, rfl⟩
            by_cases hk3 : x.kind = 3
            · go_wp2_with fail
              refine (sum_calls w8 (gs' iw) (ss' iw) (HK.out.ext HE8.out) (HT8.out.st iw hi4) (by have := HLS.out; omega)).mono ?_
              rintro e w8 ⟨rfl, hE9⟩
              obtain ⟨dl, hdl⟩ : ∃ dl, dl = (Spec.digest (ss' iw)).map cell := ⟨_, rfl⟩
              rw [show hashV (Spec.digest (ss' iw)) = .agg dl.toArray by rw [hdl]; rfl]
              have HDL := Aside0.mk hdl
              have HDZ := Aside0.mk (show dl.toArray.size = 32 by rw [hdl]; simp [Spec.digest_length])
              have HDO := Aside0.mk (show dl.toArray.all (·.oneCell') = true by rw [hdl]; exact oneCells _)
              have HEQ : Aside0 (∀ w', (Op.equalIn 10000 28 (.agg dl.toArray) (.agg dl.toArray)).run Tryd.prog w' = .ok true w') := Aside0.mk fun w' => by
                have heq := eq28 w' (Spec.digest (ss' iw)) (Spec.digest (ss' iw)) (Spec.digest_length _) (Spec.digest_length _)
                rw [beq_self_eq_true, ← hdl] at heq
                exact heq
              have HE9 := Aside0.mk (HE8.out.trans hE9)
              have HT9 := Aside0.mk (HT8.out.ext hE9)
              clear hE9 hdl
              go_wp2_with (with_reducible change wpList _ _ _ (Oper.mk _ (Op.store 28 _ _) _ _ _ _ :: _) _ _; refine Aside0.out ?_)
              refine Aside0.mk ?_
              refine wpList_store_row rfl 28 _ _ rfl w8.heap.size dl.toArray rfl rfl 28 (z8 32).toArray (heap_alloc_new _ _) (by rw [HDZ.out]; kernel_rfl) (by rw [HDZ.out]; rfl) HDO.out ?_
              have hEr : Ext w8 ((w8.alloc (.cells (z8 32).toArray 28)).setRow w8.heap.size dl.toArray) := below_alloc_setRow _ _ _
              obtain ⟨G, hG⟩ : ∃ G, G = w8.heap.size := ⟨_, rfl⟩
              refine wpList_world (fun w9 => Ext w w9 ∧ T4 w.heap.size w9 S K gs' ss' A' c' ss' ∧ Row w9 G dl 28) ⟨HE9.out.trans hEr, HT9.out.ext hEr, by rw [hG]; exact alloc_setRow _ _ _ _⟩ ?_
              rintro w9 ⟨hE10, hT10, hR9⟩
              rw [← hG]
              clear HE9 HT9
              have HE9 := Aside0.mk hE10
              have HT9 := Aside0.mk hT10
              have HR9 := Aside0.mk hR9
              have HRw := Aside0.mk (HR.out.ext hE10)
              have HCB := Aside0.mk (hT10.rB.cell (slcs_at A' c' ss' iw hi4))
              clear hE10 hT10 hR9 hEr hG
              go_wp2_with fail
              refine ext_region 6 [(0, 139), (1, 140), (2, 141), (3, 142), (4, 143), (5, 144)] [0, 1, 2, 3, 4, 5] (fun i w v => match i with | 0 => v = .agg dl.toArray | 1 => v = .int .i64 iw | 2 => v = .pointer (some ⟨K, iw, none⟩) | 3 => v = .slice (A' iw) (ss' iw).length (c' iw) | 4 => v = .agg dl.toArray | 5 => v = .bool false | _ => True) (by kernel_rfl) (by kernel_rfl) (by rfl) rfl ?mono41 ?steps41 ?fin41
              case mono41 =>
                intro i w w' v h hE
                match i with
                | 0 => exact h
                | 1 => exact h
                | 2 => exact h
                | 3 => exact h
                | 4 => exact h
                | 5 => exact h
                | _ + 6 => trivial
              case steps41 =>
                refine stepE_cons ⟨_, rfl, fun a w hE hH => ?_⟩ ?_
                ·
                  have e14 : a.tmps[14]? = some (.pointer (some ⟨G, 0, none⟩)) := hH.old 14 rfl
                  exact Or.inl ⟨(rfl), goodE_row G 0 dl _ rfl (eval_of e14) (rangeOfRow ((HR9.out.drew).ext hE)) Tryd.underlying28 rfl (by rw [show dl.length = 32 from HDZ.out]; kernel_rfl) rfl⟩
                refine stepE_cons ⟨_, rfl, fun a w hE hH => ?_⟩ ?_
                ·
                  have e8 : a.tmps[8]? = some (.int .i64 iw) := hH.old 8 rfl
                  exact Or.inl ⟨rfl, goodE_move _ rfl (eval_of e8) rfl⟩
                refine stepE_cons ⟨_, rfl, fun a w hE hH => ?_⟩ ?_
                ·
                  have e4 : a.tmps[4]? = some (.pointer (some ⟨K, 0, none⟩)) := hH.old 4 rfl
                  obtain ⟨v140, e140, g140⟩ := hH.dep 1 140 rfl (by kernel_rfl)
                  have q140 : v140 = .int .i64 iw := g140
                  subst q140
                  exact Or.inl ⟨(rfl), goodE_val (.pointer (some ⟨K, iw, none⟩)) (by simp [execOp, Act.eval, e4, e140, go_sem, b5]) rfl⟩
                refine stepE_cons ⟨_, rfl, fun a w hE hH => ?_⟩ ?_
                ·
                  obtain ⟨v141, e141, g141⟩ := hH.dep 2 141 rfl (by kernel_rfl)
                  have q141 : v141 = .pointer (some ⟨K, iw, none⟩) := g141
                  subst q141
                  exact Or.inl ⟨(rfl), goodE_val (.slice (A' iw) (ss' iw).length (c' iw)) (by simp [execOp, Act.eval, e141, go_sem, cell_ext ((Ext.to_drew _).trans hE) HCB.out]) rfl⟩
                refine stepE_cons ⟨_, rfl, fun a w hE hH => ?_⟩ ?_
                ·
                  obtain ⟨v142, e142, g142⟩ := hH.dep 3 142 rfl (by kernel_rfl)
                  have q142 : v142 = .slice (A' iw) (ss' iw).length (c' iw) := g142
                  subst q142
                  exact Or.inl ⟨(rfl), goodE_call rfl #[.slice (A' iw) (ss' iw).length (c' iw)] (by simp [Act.eval, e142]) _ Tryd.func14 (by kernel_rfl) (by kernel_rfl) ((refSum_calls w (A' iw) (c' iw) (ss' iw) (HRw.out.ext ((Ext.to_drew _).trans hE)) ((HT9.out.bb iw hi4).2.ext ((Ext.to_drew _).trans hE)) (HT9.out.bb iw hi4).1 HLS.out).mono (fun e w' h => ⟨.agg dl.toArray, by rw [HDL.out]; exact h.1, h.2, rfl⟩))⟩
                refine stepE_cons ⟨_, rfl, fun a w hE hH => ?_⟩ ?_
                ·
                  obtain ⟨v139, e139, g139⟩ := hH.dep 0 139 rfl (by kernel_rfl)
                  have q139 : v139 = .agg dl.toArray := g139
                  subst q139
                  obtain ⟨v143, e143, g143⟩ := hH.dep 4 143 rfl (by kernel_rfl)
                  have q143 : v143 = .agg dl.toArray := g143
                  subst q143
                  exact Or.inl ⟨(rfl), goodE_val (.bool false) (by simp [execOp, Act.eval, e139, e143, HEQ.out w, go_sem]) rfl⟩
                exact stepE_nil
              rintro vals wz hE hV
              have k144 : vals 5 = .bool false := hV 5 (by simp) rfl
              simp only [List.map_cons, List.map_nil, putAll, Act.put, List.setIfInBounds_toArray, List.set_cons_zero, List.set_cons_succ, k144]
              have HE11 := Aside0.mk (HE9.out.trans ((Ext.to_drew _).trans hE))
              have HT11 := Aside0.mk (HT9.out.ext ((Ext.to_drew _).trans hE))
              clear hE hV
              go_wp2_with fail
              go_roundw
              case rel => exact ⟨k + 1, gs', ss', A', c', by omega, by simp, HE11.out, HT11.out, fun j hj => by rw [HSUM.out]; exact HLN8.out j hj⟩
              case measure => simp [intOf]; omega
            · go_wp2_with fail
              go_roundw
              case rel => exact ⟨k + 1, gs', ss', A', c', by omega, by simp, HE8.out, HT8.out, fun j hj => by rw [HSUM.out]; exact HLN8.out j hj⟩
              case measure => simp [intOf]; omega
        · obtain rfl : k = ops.length := by omega
          have hss : ∀ j, j < 4 → (ss j).length ≤ 1048576 := fun j hj => by have := hlen j hj; have := sum_take_le (ops.map fun x => x.b.length) ops.length; omega
          have HSS := Aside0.mk hss
          clear hE hT hlen hss
          go_wp2_with fail
          go_loopw [15] (fun i wr => ∃ (k : Nat), k ≤ 4 ∧ i = .int .i64 k ∧ Ext w wr ∧ T4 w.heap.size wr S K gs ss A c ss) (fun i _ => 4 - (intOf i).toNat)
          case atStart => exact ⟨0, by omega, rfl, HE.out, HT.out⟩
          case round =>
            obtain ⟨iw, hi4', rfl, hE, hT⟩ := hrel
            by_cases hi4 : iw < 4
            · obtain ⟨gs', hgs⟩ : ∃ gs', gs' = gs := ⟨_, rfl⟩
              obtain ⟨ss', hss'⟩ : ∃ ss', ss' = ss := ⟨_, rfl⟩
              obtain ⟨A', hA'⟩ : ∃ A', A' = A := ⟨_, rfl⟩
              obtain ⟨c', hc'⟩ : ∃ c', c' = c := ⟨_, rfl⟩
              subst hgs hss' hA' hc'
              have HE8 := Aside0.mk hE
              have HT8 := Aside0.mk hT
              have HLS := Aside0.mk (show (ss' iw).length ≤ 10000000000000 by have := HSS.out iw hi4; omega)
              have cs := hT.rS.cell (ptrs_at gs' iw hi4)
              have b5 : (0 : Int) ≤ iw ∧ (iw : Int) < 4 := by omega
              clear hE hT
              go_wp2_with fail
              refine (sum_calls wr (gs' iw) (ss' iw) (HK.out.ext HE8.out) (HT8.out.st iw hi4) (by have := HLS.out; omega)).mono ?_
              rintro e w8 ⟨rfl, hE9⟩
              obtain ⟨dl, hdl⟩ : ∃ dl, dl = (Spec.digest (ss' iw)).map cell := ⟨_, rfl⟩
              rw [show hashV (Spec.digest (ss' iw)) = .agg dl.toArray by rw [hdl]; rfl]
              have HDL := Aside0.mk hdl
              have HDZ := Aside0.mk (show dl.toArray.size = 32 by rw [hdl]; simp [Spec.digest_length])
              have HDO := Aside0.mk (show dl.toArray.all (·.oneCell') = true by rw [hdl]; exact oneCells _)
              have HEQ : Aside0 (∀ w', (Op.equalIn 10000 28 (.agg dl.toArray) (.agg dl.toArray)).run Tryd.prog w' = .ok true w') := Aside0.mk fun w' => by
                have heq := eq28 w' (Spec.digest (ss' iw)) (Spec.digest (ss' iw)) (Spec.digest_length _) (Spec.digest_length _)
                rw [beq_self_eq_true, ← hdl] at heq
                exact heq
              have HE9 := Aside0.mk (HE8.out.trans hE9)
              have HT9 := Aside0.mk (HT8.out.ext hE9)
              clear hE9 hdl
              go_wp2_with (with_reducible change wpList _ _ _ (Oper.mk _ (Op.store 28 _ _) _ _ _ _ :: _) _ _; refine Aside0.out ?_)
              refine Aside0.mk ?_
              refine wpList_store_row rfl 28 _ _ rfl w8.heap.size dl.toArray rfl rfl 28 (z8 32).toArray (heap_alloc_new _ _) (by rw [HDZ.out]; kernel_rfl) (by rw [HDZ.out]; rfl) HDO.out ?_
              have hEr : Ext w8 ((w8.alloc (.cells (z8 32).toArray 28)).setRow w8.heap.size dl.toArray) := below_alloc_setRow _ _ _
              obtain ⟨G, hG⟩ : ∃ G, G = w8.heap.size := ⟨_, rfl⟩
              refine wpList_world (fun w9 => Ext w w9 ∧ T4 w.heap.size w9 S K gs' ss' A' c' ss' ∧ Row w9 G dl 28) ⟨HE9.out.trans hEr, HT9.out.ext hEr, by rw [hG]; exact alloc_setRow _ _ _ _⟩ ?_
              rintro w9 ⟨hE10, hT10, hR9⟩
              rw [← hG]
              clear HE9 HT9
              have HE9 := Aside0.mk hE10
              have HT9 := Aside0.mk hT10
              have HR9 := Aside0.mk hR9
              have HRw := Aside0.mk (HR.out.ext hE10)
              have HCB := Aside0.mk (hT10.rB.cell (slcs_at A' c' ss' iw hi4))
              clear hE10 hT10 hR9 hEr hG
              go_wp2_with fail
              refine ext_region 6 [(0, 157), (1, 158), (2, 159), (3, 160), (4, 161), (5, 162)] [0, 1, 2, 3, 4, 5] (fun i w v => match i with | 0 => v = .agg dl.toArray | 1 => v = .int .i64 iw | 2 => v = .pointer (some ⟨K, iw, none⟩) | 3 => v = .slice (A' iw) (ss' iw).length (c' iw) | 4 => v = .agg dl.toArray | 5 => v = .bool false | _ => True) (by kernel_rfl) (by kernel_rfl) (by rfl) rfl ?mono49 ?steps49 ?fin49
              case mono49 =>
                intro i w w' v h hE
                match i with
                | 0 => exact h
                | 1 => exact h
                | 2 => exact h
                | 3 => exact h
                | 4 => exact h
                | 5 => exact h
                | _ + 6 => trivial
              case steps49 =>
                refine stepE_cons ⟨_, rfl, fun a w hE hH => ?_⟩ ?_
                ·
                  have e16 : a.tmps[16]? = some (.pointer (some ⟨G, 0, none⟩)) := hH.old 16 rfl
                  exact Or.inl ⟨(rfl), goodE_row G 0 dl _ rfl (eval_of e16) (rangeOfRow ((HR9.out.drew).ext hE)) Tryd.underlying28 rfl (by rw [show dl.length = 32 from HDZ.out]; kernel_rfl) rfl⟩
                refine stepE_cons ⟨_, rfl, fun a w hE hH => ?_⟩ ?_
                ·
                  have e15 : a.tmps[15]? = some (.int .i64 iw) := hH.old 15 rfl
                  exact Or.inl ⟨rfl, goodE_move _ rfl (eval_of e15) rfl⟩
                refine stepE_cons ⟨_, rfl, fun a w hE hH => ?_⟩ ?_
                ·
                  have e4 : a.tmps[4]? = some (.pointer (some ⟨K, 0, none⟩)) := hH.old 4 rfl
                  obtain ⟨v158, e158, g158⟩ := hH.dep 1 158 rfl (by kernel_rfl)
                  have q158 : v158 = .int .i64 iw := g158
                  subst q158
                  exact Or.inl ⟨(rfl), goodE_val (.pointer (some ⟨K, iw, none⟩)) (by simp [execOp, Act.eval, e4, e158, go_sem, b5]) rfl⟩
                refine stepE_cons ⟨_, rfl, fun a w hE hH => ?_⟩ ?_
                ·
                  obtain ⟨v159, e159, g159⟩ := hH.dep 2 159 rfl (by kernel_rfl)
                  have q159 : v159 = .pointer (some ⟨K, iw, none⟩) := g159
                  subst q159
                  exact Or.inl ⟨(rfl), goodE_val (.slice (A' iw) (ss' iw).length (c' iw)) (by simp [execOp, Act.eval, e159, go_sem, cell_ext ((Ext.to_drew _).trans hE) HCB.out]) rfl⟩
                refine stepE_cons ⟨_, rfl, fun a w hE hH => ?_⟩ ?_
                ·
                  obtain ⟨v160, e160, g160⟩ := hH.dep 3 160 rfl (by kernel_rfl)
                  have q160 : v160 = .slice (A' iw) (ss' iw).length (c' iw) := g160
                  subst q160
                  exact Or.inl ⟨(rfl), goodE_call rfl #[.slice (A' iw) (ss' iw).length (c' iw)] (by simp [Act.eval, e160]) _ Tryd.func14 (by kernel_rfl) (by kernel_rfl) ((refSum_calls w (A' iw) (c' iw) (ss' iw) (HRw.out.ext ((Ext.to_drew _).trans hE)) ((HT9.out.bb iw hi4).2.ext ((Ext.to_drew _).trans hE)) (HT9.out.bb iw hi4).1 HLS.out).mono (fun e w' h => ⟨.agg dl.toArray, by rw [HDL.out]; exact h.1, h.2, rfl⟩))⟩
                refine stepE_cons ⟨_, rfl, fun a w hE hH => ?_⟩ ?_
                ·
                  obtain ⟨v157, e157, g157⟩ := hH.dep 0 157 rfl (by kernel_rfl)
                  have q157 : v157 = .agg dl.toArray := g157
                  subst q157
                  obtain ⟨v161, e161, g161⟩ := hH.dep 4 161 rfl (by kernel_rfl)
                  have q161 : v161 = .agg dl.toArray := g161
                  subst q161
                  exact Or.inl ⟨(rfl), goodE_val (.bool false) (by simp [execOp, Act.eval, e157, e161, HEQ.out w, go_sem]) rfl⟩
                exact stepE_nil
              rintro vals wz hE hV
              have k162 : vals 5 = .bool false := hV 5 (by simp) rfl
              simp only [List.map_cons, List.map_nil, putAll, Act.put, List.setIfInBounds_toArray, List.set_cons_zero, List.set_cons_succ, k162]
              have HE11 := Aside0.mk (HE9.out.trans ((Ext.to_drew _).trans hE))
              have HT11 := Aside0.mk (HT9.out.ext ((Ext.to_drew _).trans hE))
              clear hE hV
              go_wp2_with fail
              go_roundw
              case rel => exact ⟨iw + 1, by omega, by simp, HE11.out, HT11.out⟩
              case measure => simp [intOf]; omega
            · obtain rfl : iw = 4 := by omega
              have HE12 := Aside0.mk hE
              clear hE hT
              go_wp2_with fail
              go_ret
              exact ⟨rfl, HE12.out⟩
theorem ops_sum (l : List OpD) : (l.map fun x => x.b.length + 1).sum = (l.map fun x => x.b.length).sum + l.length := by
  induction l with
  | nil => rfl
  | cons p l ih => simp only [List.map_cons, List.sum_cons, List.length_cons, ih]; omega
end Go.Proofs.YtnkhhnfmijljbaaDoor
namespace Go.Proofs.YtnkhhnfmijljbaaDoor
theorem flat_sum (ps : List (List UInt8)) : (ps.map fun x => x.length + 1).sum = ps.flatten.length + ps.length := by
  induction ps with
  | nil => rfl
  | cons p ps ih => simp only [List.map_cons, List.sum_cons, List.flatten_cons, List.length_append, List.length_cons, ih]; omega
end Go.Proofs.YtnkhhnfmijljbaaDoor
