/- Parts of the proof: ShaStates: the script opened; four states and four rows of bytes. ShaStates: four states and four rows of bytes. append(append([]byte{}, x...), y...) in a region that draws its order; copied, with its row. cairnlaw03.Roomy, AsWas, over: bytes with marks behind them. cairnlaw03.block: a secret's block, each byte with x, by the program's sums. cairnref03.Block and cairnref03.Code: the document's block of a secret; its code. cairnlaw03's table: three codes on their way, and what the document has of them. -/
import Derived.Test.YtnkhhnfmijljbaaDoorZExactf
import Derived.Lib.SmallJoins
import Derived.Test.YtnkhhnfmijljbaaDoorZExactc
import Derived.Test.YtnkhhnfmijljbaaDoorZExacte
set_option linter.unusedVariables false
set_option linter.unusedSimpArgs false
namespace Go.Proofs.YtnkhhnfmijljbaaDoor
open Go.ChangeShapes Go.WideShapes Go.ChangeAt Go.RowKit Go.Proofs.YtnkhhnfmijljbaaDoorW.PrintWords Go.Proofs.YtnkhhnfmijljbaaDoorW.PrintLast Go.Proofs.YtnkhhnfmijljbaaDoorW.PrintMore
open Extern.Stop (cell)

structure OpD where
  kind : Int
  w : Int
  tt : Int
  b : List UInt8
def i64ok (x : Int) : Prop := -9223372036854775808 ≤ x ∧ x ≤ 9223372036854775807
def opL (x : OpD) (A : Option Addr) (c : Nat) : List Value := [.int .i64 x.kind, .int .i64 x.w, .int .i64 x.tt, .slice A x.b.length c]
/-- one step of the script, at ad -/
def OpAt (w : World) (ad : Addr) (x : OpD) : Prop := ∃ A c, (∀ j v, (opL x A c)[j]? = some v → w.cell? (ad.add j) = some v) ∧ x.b.length ≤ c ∧ Bs w A x.b.length x.b ∧ i64ok x.kind ∧ i64ok x.w ∧ i64ok x.tt
theorem OpAt.ext {w w' : World} {ad : Addr} {x : OpD} (h : OpAt w ad x) (hE : Ext w w') : OpAt w' ad x := by
  obtain ⟨A, c, h1, h2, h3, h4⟩ := h
  exact ⟨A, c, fun j v hv => cell_ext hE (h1 j v hv), h2, h3.ext hE, h4⟩
def OpsR (w : World) (P : Option Addr) (ops : List OpD) : Prop := ∀ k (hk : k < ops.length), ∃ ad, P = some ad ∧ OpAt w (ad.add (k * 4)) ops[k]
theorem OpsR.ext {w w' : World} {P : Option Addr} {ops : List OpD} (h : OpsR w P ops) (hE : Ext w w') : OpsR w' P ops := fun k hk => by
  obtain ⟨ad, h1, h2⟩ := h k hk
  exact ⟨ad, h1, h2.ext hE⟩
theorem run_loadVar_ad {P : Program} (w : World) (a : Addr) (ty : TypeId) (cs : List Value) (d : TypeDesc) (hc : ∀ j v, cs[j]? = some v → w.cell? (a.add j) = some v)
    (hu : P.underlying ty = some d) (hd : d.isRow = true) (hi : (P.info? ty).map (·.size) = some cs.length) :
    (loadVar ty a).run P w = .ok (.agg cs.toArray) w := by
  have hl : (loadCells a cs.length).run P w = .ok cs.toArray w := run_loadCells_list (P := P) w a cs hc
  cases hq : P.info? ty with
  | none => simp [hq] at hi
  | some i =>
    have hs : i.size = cs.length := by simpa [hq] using hi
    have hagg : (isAgg ty).run P w = .ok true w := by
      unfold isAgg
      rw [Sem.run_bind, run_underlying hu w]
      cases d <;> simp_all
    simp [loadVar, Sem.run_bind, hagg, sizeOf, typeInfo, hq, hs, hl]
theorem exec_load_ad {P : Program} {w : World} {ρ : Operand → Value} {o : Oper} {x : Operand} (ty : TypeId) (ho : o.op = .load ty x) (a : Addr) (hx : ρ x = .pointer (some a)) (cs : List Value) (d : TypeDesc) (hc : ∀ j v, cs[j]? = some v → w.cell? (a.add j) = some v)
    (hu : P.underlying ty = some d) (hd : d.isRow = true) (hi : (P.info? ty).map (·.size) = some cs.length) : (execOp ρ o).run P w = .ok (.value (.agg cs.toArray)) w := by
  unfold execOp
  simp only [ho, hx, Instr.loadAt, Instr.sureAddr, Sem.run_bind, Sem.run_pure, Result.andThen_ok, run_loadVar_ad w a ty cs d hc hu hd hi]
section
variable {H : Type} {enc : TypeId × Value → H} {w : World} {r : Reach} {b0 : Nat} {v : Value} {d : DataW H} {p : List MemPlace}
theorem cells48 : Tryd.prog.cellsOf 48 = 4 := by kernel_rfl
theorem cells_of_cells? {w : World} {b : Nat} {ad : Addr} {n : Nat} {cs : List Value} (h : w.cells? b ad n = some cs) : ∀ j v, cs[j]? = some v → w.cell? (ad.add j) = some v := by
  obtain ⟨_, hl, hc⟩ := World.cells?_some h
  intro j v hv
  have hj := (List.getElem?_eq_some_iff.1 hv).1
  rw [hc j (by omega), hv]
theorem open_op {fuel : Nat} {cs : List Value} {ad : Addr} {y : DataW H × List MemPlace} (hc : ∀ j v, cs[j]? = some v → w.cell? (ad.add j) = some v) (h : DataW.trod enc Tryd.prog w 0 (fun _ => true) true fuel 48 cs = some y) :
    ∃ x : OpD, OpAt w ad x ∧ x.b.length + 1 ≤ Rows.uptoBulk y.1 := by
  obtain ⟨y0, y1, y2, y3, n, rfl, hl, h0, h1, h2, h3⟩ := Go.Joins.trod_struct4 Tryd.underlying48 h
  rw [cells48] at hl
  obtain ⟨c0, c1, c2, c3, rfl⟩ : ∃ c0 c1 c2 c3, cs = [c0, c1, c2, c3] := by
    match cs, hl with
    | [c0, c1, c2, c3], _ => exact ⟨c0, c1, c2, c3, rfl⟩
  rw [cells3] at h0 h1 h2
  rw [cells24] at h3
  obtain ⟨n0, e0, _, w0⟩ := DataW.trod_int Tryd.underlying3 h0
  obtain ⟨n1, e1, _, w1⟩ := DataW.trod_int Tryd.underlying3 h1
  obtain ⟨n2, e2, _, w2⟩ := DataW.trod_int Tryd.underlying3 h2
  obtain ⟨A', c', q, e3, h4, h5, h6⟩ := open_u8s (v := c3) Tryd.underlying24 Tryd.underlying5 cells5 h3
  simp at e0 e1 e2
  subst e0 e1 e2 e3
  refine ⟨⟨n0, n1, n2, q⟩, ⟨A', c', hc, h4, h5, i64_of_wf w0, i64_of_wf w1, i64_of_wf w2⟩, ?_⟩
  simp only [Rows.uptoBulk, Rows.uptoBulkAll]
  omega
/-- an argument []Op -/
theorem open_arg_ops (hv : Value.okWide Tryd.prog w r b0 44 v) (h : DataW.Trod enc Tryd.prog w 0 (fun _ => true) true 44 v d p) :
    ∃ (A : Option Addr) (c : Nat) (ops : List OpD), v = .slice A ops.length c ∧ ops.length ≤ c ∧ OpsR w A ops ∧ (ops.map fun x => x.b.length + 1).sum ≤ Rows.uptoBulk d := by
  obtain ⟨a, n, c, rfl⟩ := okWide_slice Tryd.underlying44 hv
  obtain ⟨fuel, hf⟩ := h
  rcases DataW.trod_slice Tryd.underlying44 hf with ⟨hcs, hy⟩ | ⟨a', len, cap, elems, rest, m, _, hcs, hx, hb, hl, hm, hlen, hel, hsp, hns⟩
  · have e : (Value.slice a n c) = .slice none 0 0 := by simpa [Value.cells] using hcs
    injection e with e1 e2 e3
    subst e1 e2 e3
    refine ⟨none, 0, [], rfl, Nat.le_refl _, (fun k hk => by cases hk), Nat.zero_le _⟩
  · have e : (Value.slice a n c) = .slice (some a') len cap := by simpa [Value.cells] using hcs
    injection e with e1 e2 e3
    subst e1 e2 e3
    have key : ∀ i, ∃ q : OpD, ∀ y, elems[i]? = some y → OpAt w (a'.add (i * 4)) q ∧ q.b.length + 1 ≤ Rows.uptoBulk y.1 := by
      intro i
      by_cases hi : i < elems.length
      · have h1 := hel i (by omega)
        rw [List.getElem?_eq_getElem hi, cells48, Option.bind_eq_some_iff] at h1
        obtain ⟨cs', hcs', hy⟩ := h1
        obtain ⟨q, h2, h3⟩ := open_op (cells_of_cells? hcs') hy
        refine ⟨q, fun y hy' => ?_⟩
        rw [List.getElem?_eq_getElem hi] at hy'
        cases hy'
        exact ⟨h2, h3⟩
      · exact ⟨⟨0, 0, 0, []⟩, fun y hy => by rw [List.getElem?_eq_none (by omega)] at hy; cases hy⟩
    obtain ⟨f, hfq⟩ := Classical.axiomOfChoice key
    have hel' : ∀ i, i < elems.length → elems[i]? = some (elems[i]?.getD (.nil, [])) := fun i hi => by rw [List.getElem?_eq_getElem hi]; rfl
    refine ⟨some a', c, (List.range n).map f, by simp, by simpa using hl, fun k hk => ?_, ?_⟩
    · have hk' : k < n := by simpa using hk
      refine ⟨a', rfl, ?_⟩
      have := (hfq k _ (hel' k (by omega))).1
      simpa using this
    · have hd : d = .slice (elems.map (·.1)) (rest.map (·.1)) := congrArg Prod.fst hx
      have h1 := bulk_sum (fun x : OpD => x.b.length + 1) (elems.map (·.1)) f (fun i y hi => by
        rw [List.getElem?_map, Option.map_eq_some_iff] at hi
        obtain ⟨z, hz, rfl⟩ := hi
        exact (hfq i z hz).2)
      rw [List.length_map, hlen] at h1
      rw [hd]
      simp only [Rows.uptoBulk]
      omega
end
end Go.Proofs.YtnkhhnfmijljbaaDoor
set_option linter.unusedVariables false
set_option linter.unusedSimpArgs false
namespace Go.Proofs.YtnkhhnfmijljbaaDoor
open Go.RowKit Go.Proofs.YtnkhhnfmijljbaaDoorW.PrintWords Go.Proofs.YtnkhhnfmijljbaaDoorW.PrintLast Go.Proofs.YtnkhhnfmijljbaaDoorW.PrintMore
open Extern.Stop (cell)

def upd {α : Type} (f : Nat → α) (i : Nat) (x : α) : Nat → α := fun j => if j = i then x else f j
theorem upd_self {α : Type} (f : Nat → α) (i : Nat) (x : α) : upd f i x i = x := by simp [upd]
theorem upd_ne {α : Type} (f : Nat → α) (i j : Nat) (x : α) (h : j ≠ i) : upd f i x j = f j := by simp [upd, h]
def ptrs (gs : Nat → Nat) : List Value := [.pointer (some ⟨gs 0, 0, none⟩), .pointer (some ⟨gs 1, 0, none⟩), .pointer (some ⟨gs 2, 0, none⟩), .pointer (some ⟨gs 3, 0, none⟩)]
def slcs (A : Nat → Option Addr) (c : Nat → Nat) (bs : Nat → List UInt8) : List Value := [.slice (A 0) (bs 0).length (c 0), .slice (A 1) (bs 1).length (c 1), .slice (A 2) (bs 2).length (c 2), .slice (A 3) (bs 3).length (c 3)]
theorem ptrs_at (gs : Nat → Nat) (i : Nat) (h : i < 4) : (ptrs gs)[i]? = some (.pointer (some ⟨gs i, 0, none⟩)) := by
  match i, h with
  | 0, _ | 1, _ | 2, _ | 3, _ => rfl
theorem slcs_at (A : Nat → Option Addr) (c : Nat → Nat) (bs : Nat → List UInt8) (i : Nat) (h : i < 4) : (slcs A c bs)[i]? = some (.slice (A i) (bs i).length (c i)) := by
  match i, h with
  | 0, _ | 1, _ | 2, _ | 3, _ => rfl
theorem ptrs_set (gs : Nat → Nat) (i g : Nat) (h : i < 4) : (ptrs gs).set i (.pointer (some ⟨g, 0, none⟩)) = ptrs (upd gs i g) := by
  match i, h with
  | 0, _ | 1, _ | 2, _ | 3, _ => rfl
theorem slcs_set (A : Nat → Option Addr) (c : Nat → Nat) (bs : Nat → List UInt8) (i : Nat) (h : i < 4) (A' : Option Addr) (c' : Nat) (x : List UInt8) : (slcs A c bs).set i (.slice A' x.length c') = slcs (upd A i A') (upd c i c') (upd bs i x) := by
  match i, h with
  | 0, _ | 1, _ | 2, _ | 3, _ => rfl
structure T4 (base : Nat) (w : World) (S K : Nat) (gs : Nat → Nat) (ss : Nat → List UInt8) (A : Nat → Option Addr) (c : Nat → Nat) (bs : Nat → List UInt8) : Prop where
  rS : Row w S (ptrs gs) 45
  rB : Row w K (slcs A c bs) 46
  st : ∀ i, i < 4 → St w (gs i) (ss i) (ss i).length
  bb : ∀ i, i < 4 → (bs i).length ≤ c i ∧ Bs w (A i) (bs i).length (bs i)
  ap : ∀ i, i < 4 → ∀ ad, A i = some ad → 0 < (bs i).length → ad.block ≠ S ∧ ad.block ≠ K ∧ ∀ j, j < 4 → ad.block ≠ gs j
  nS : S ≠ K ∧ base ≤ S ∧ base ≤ K
  nJ : ∀ j, j < 4 → gs j ≠ S ∧ gs j ≠ K ∧ base ≤ gs j
  nG : ∀ i j, i < 4 → j < 4 → i ≠ j → gs i ≠ gs j
theorem St.only {w w' : World} {g k : Nat} {bs : List UInt8} {tk : Int} (h : St w g bs tk) (hO : Only w k w') (hne : g ≠ k) : St w' g bs tk := by
  obtain ⟨T, hT, hR⟩ := h
  exact ⟨T, hT, hO.row hR hne⟩
section
variable {base S K : Nat} {w0 w w' : World} {gs : Nat → Nat} {ss : Nat → List UInt8} {A : Nat → Option Addr} {c : Nat → Nat} {bs : Nat → List UInt8}
theorem T4.ext (h : T4 base w S K gs ss A c bs) (hE : Ext w w') : T4 base w' S K gs ss A c bs :=
  ⟨h.rS.ext hE, h.rB.ext hE, fun i hi => (h.st i hi).ext hE, fun i hi => ⟨(h.bb i hi).1, (h.bb i hi).2.ext hE⟩, h.ap, h.nS, h.nJ, h.nG⟩
theorem T4.lts (h : T4 base w S K gs ss A c bs) : S < w.heap.size ∧ K < w.heap.size ∧ (∀ i, i < 4 → gs i < w.heap.size) ∧ ∀ i, i < 4 → ∀ ad, A i = some ad → 0 < (bs i).length → ad.block < w.heap.size :=
  ⟨h.rS.lt, h.rB.lt, fun i hi => (h.st i hi).choose_spec.2.lt, fun i hi ad ha hn => fr_lt (h.bb i hi).2 ad ha hn⟩
/-- what is written lies in a block that is none of theirs -/
theorem T4.only {g : Nat} (h : T4 base w S K gs ss A c bs) (hO : Only w g w') (hS : S ≠ g) (hK : K ≠ g) (hG : ∀ i, i < 4 → gs i ≠ g) (hA : ∀ i, i < 4 → ∀ ad, A i = some ad → 0 < (bs i).length → ad.block ≠ g) : T4 base w' S K gs ss A c bs :=
  ⟨hO.row h.rS hS, hO.row h.rB hK, fun i hi => (h.st i hi).only hO (hG i hi), fun i hi => ⟨(h.bb i hi).1, (h.bb i hi).2.only hO (hA i hi)⟩, h.ap, h.nS, h.nJ, h.nG⟩
theorem T4.fresh {g : Nat} (h0 : T4 base w0 S K gs ss A c bs) (hE : Ext w0 w) (hO : Only w g w') (hg : w0.heap.size ≤ g) : T4 base w' S K gs ss A c bs := by
  obtain ⟨h1, h2, h3, h4⟩ := h0.lts
  exact (h0.ext hE).only hO (by omega) (by omega) (fun i hi => by have := h3 i hi; omega) (fun i hi ad ha hn => by have := h4 i hi ad ha hn; omega)
theorem T4.write {i : Nat} {x : List UInt8} (h : T4 base w S K gs ss A c bs) (hi : i < 4) (hO : Only w (gs i) w') (hst : St w' (gs i) x x.length) : T4 base w' S K gs (upd ss i x) A c bs := by
  refine ⟨hO.row h.rS (h.nJ i hi).1.symm, hO.row h.rB (h.nJ i hi).2.1.symm, fun j hj => ?_, fun j hj => ⟨(h.bb j hj).1, (h.bb j hj).2.only hO (fun ad ha hn => (h.ap j hj ad ha hn).2.2 i hi)⟩, h.ap, h.nS, h.nJ, h.nG⟩
  by_cases hji : j = i
  · subst hji; rw [upd_self]; exact hst
  · rw [upd_ne _ _ _ _ hji]; exact (h.st j hj).only hO (h.nG j i hj hi hji)
/-- s[i] = a new state -/
theorem T4.setS {i g : Nat} {x : List UInt8} (h0 : T4 base w0 S K gs ss A c bs) (hE : Ext w0 w) (hi : i < 4) (hg : w0.heap.size ≤ g) (hb : base ≤ w0.heap.size) (hst : St w g x x.length) :
    T4 base (w.setCell ⟨S, i, none⟩ (.pointer (some ⟨g, 0, none⟩))) S K (upd gs i g) (upd ss i x) A c bs := by
  obtain ⟨h1, h2, h3, h4⟩ := h0.lts
  have h := h0.ext hE
  have hO : Only w S (w.setCell ⟨S, i, none⟩ (.pointer (some ⟨g, 0, none⟩))) := (Only.refl w S).set i _
  refine ⟨?_, hO.row h.rB h.nS.1.symm, fun j hj => ?_, fun j hj => ⟨(h.bb j hj).1, (h.bb j hj).2.only hO (fun ad ha hn => (h.ap j hj ad ha hn).1)⟩, fun j hj ad ha hn => ⟨(h.ap j hj ad ha hn).1, (h.ap j hj ad ha hn).2.1, fun k hk => ?_⟩, h.nS, fun j hj => ?_, fun j k hj hk hne => ?_⟩
  · rw [← ptrs_set gs i g hi]; exact h.rS.set i _
  · by_cases hji : j = i
    · subst hji; rw [upd_self, upd_self]; exact hst.only hO (by omega)
    · rw [upd_ne _ _ _ _ hji, upd_ne _ _ _ _ hji]; exact (h.st j hj).only hO (h.nJ j hj).1
  · by_cases hki : k = i
    · subst hki; rw [upd_self]; have := h4 j hj ad ha hn; omega
    · rw [upd_ne _ _ _ _ hki]; exact (h.ap j hj ad ha hn).2.2 k hk
  · by_cases hji : j = i
    · subst hji; rw [upd_self]; exact ⟨by omega, by omega, by omega⟩
    · rw [upd_ne _ _ _ _ hji]; exact h.nJ j hj
  · by_cases hji : j = i
    · subst hji
      have hkj : k ≠ j := fun e => hne e.symm
      rw [upd_self, upd_ne _ _ _ _ hkj]; have := h3 k hk; omega
    · rw [upd_ne _ _ _ _ hji]
      by_cases hki : k = i
      · subst hki; rw [upd_self]; have := h3 j hj; omega
      · rw [upd_ne _ _ _ _ hki]; exact h.nG j k hj hk hne
/-- b[i] = these bytes -/
theorem T4.setB {i : Nat} {A' : Option Addr} {c' : Nat} {x : List UInt8} (h : T4 base w S K gs ss A c bs) (hi : i < 4) (hc : x.length ≤ c') (hb : Bs w A' x.length x) (ha : ∀ ad, A' = some ad → 0 < x.length → ad.block ≠ S ∧ ad.block ≠ K ∧ ∀ j, j < 4 → ad.block ≠ gs j) :
    T4 base (w.setCell ⟨K, i, none⟩ (.slice A' x.length c')) S K gs ss (upd A i A') (upd c i c') (upd bs i x) := by
  have hO : Only w K (w.setCell ⟨K, i, none⟩ (.slice A' x.length c')) := (Only.refl w K).set i _
  refine ⟨hO.row h.rS h.nS.1, ?_, fun j hj => (h.st j hj).only hO (h.nJ j hj).2.1, fun j hj => ?_, fun j hj => ?_, h.nS, h.nJ, h.nG⟩
  · rw [← slcs_set A c bs i hi]; exact h.rB.set i _
  · by_cases hji : j = i
    · subst hji; rw [upd_self, upd_self, upd_self]; exact ⟨hc, hb.only hO (fun ad he hn => (ha ad he hn).2.1)⟩
    · rw [upd_ne _ _ _ _ hji, upd_ne _ _ _ _ hji, upd_ne _ _ _ _ hji]; exact ⟨(h.bb j hj).1, (h.bb j hj).2.only hO (fun ad he hn => (h.ap j hj ad he hn).2.1)⟩
  · by_cases hji : j = i
    · subst hji; rw [upd_self, upd_self]; exact ha
    · rw [upd_ne _ _ _ _ hji, upd_ne _ _ _ _ hji]; exact h.ap j hj
end
end Go.Proofs.YtnkhhnfmijljbaaDoor
set_option linter.unusedVariables false
set_option linter.unusedSimpArgs false
namespace Go.Proofs.YtnkhhnfmijljbaaDoor
open Go.RowKit Go.Proofs.YtnkhhnfmijljbaaDoorW.PrintWords Go.Proofs.YtnkhhnfmijljbaaDoorW.PrintLast Go.Proofs.YtnkhhnfmijljbaaDoorW.PrintMore
open Extern.Stop (cell)

theorem nums_cells (al : List UInt8) : nums .u8 (ints al) = al.map cell := by simp [nums, ints, cell, n8]
theorem run_app2 {B : Nat} {W : World} (ty : TypeId) {v : Value} {q ys : List UInt8} {A : Option Addr} {c : Nat} (hO : Ob B W v q) (hy : Bs W A ys.length ys) (hB : B ≤ W.heap.size) (hl : q.length + ys.length ≤ 140737488355328) :
    ∃ v1 w1, (Builtin.append_ #[24, 24] ty #[v, .slice A ys.length c]).run Tryd.prog W = .ok v1 w1 ∧ Ob B w1 v1 (q ++ ys) ∧ Below B W w1 ∧ ∀ u q', q'.length ≤ q.length → Ob B W u q' → Ob B w1 u q' := by
  obtain ⟨i, hi, hz, hsz, hby⟩ := i5
  rcases Nat.eq_zero_or_pos ys.length with h0 | h0
  · obtain rfl : ys = [] := List.eq_nil_of_length_eq_zero h0
    refine ⟨v, W, ?_, by simpa using hO, Below.refl _ _, fun u _ _ h => h⟩
    rcases hO.2 with ⟨rfl, hn⟩ | ⟨g, cap, cur, rfl, hb, hh, hnc, hcm, hcs, ht⟩
    · cases A with
      | none => simp [Builtin.append_, run_underlying Tryd.underlying24, sizeOf, typeInfo, hi, Builtin.lenOf, Builtin.firstCells, storeCells]
      | some a => simp [Builtin.append_, run_underlying Tryd.underlying24, sizeOf, typeInfo, hi, Builtin.lenOf, Builtin.firstCells, storeCells, loadCells, loadCellsFrom]
    · cases A with
      | none => simp [Builtin.append_, run_underlying Tryd.underlying24, sizeOf, typeInfo, hi, Builtin.lenOf, Builtin.firstCells, storeCells, hnc]
      | some a => simp [Builtin.append_, run_underlying Tryd.underlying24, sizeOf, typeInfo, hi, Builtin.lenOf, Builtin.firstCells, storeCells, loadCells, loadCellsFrom, hnc]
  · obtain ⟨a, rfl, _⟩ := hy.cells h0
    have hnews : ∀ j u, (nums .u8 (ints ys))[j]? = some u → W.cell? (a.add j) = some u := by rw [nums_cells]; exact cells_of_bs hy
    have hnl : (nums .u8 (ints ys)).length = ys.length := by simp [nums, ints]
    have hql : (ints q).length = q.length := ints_length q
    have hql' : ∀ l : List UInt8, (ints l).length = l.length := ints_length
    have h1 : ∀ u ∈ nums .u8 (ints ys), u.oneCell' = true := by
      intro u hu
      obtain ⟨z, _, rfl⟩ := List.mem_map.1 hu
      rfl
    obtain ⟨v1, w1, hr, hown, hg, _, hat⟩ := run_append_own_at (P := Tryd.prog) W B 24 ty 5 i (.int .u8 0) 1 1 Tryd.underlying24 hi hz hsz hby rfl (by omega) v (ints q).length (nums .u8 (ints q)) hO a ys.length c (nums .u8 (ints ys)) (by rw [hnl, Nat.mul_one]) hnews h1 (by unfold maxLen; omega) (by omega) hB
    have hob : Ob B w1 v1 (q ++ ys) := by
      have e1 : (ints q).length + ys.length = (ints (q ++ ys)).length := by simp [ints]
      have e2 : nums .u8 (ints q) ++ nums .u8 (ints ys) = nums .u8 (ints (q ++ ys)) := by simp [nums, ints]
      rw [e1, e2] at hown
      exact hown
    refine ⟨v1, w1, hr, hob, (Below.refl B W).grown hg hB (own_base hO), fun u q' hq' hu => ?_⟩
    by_cases hne : u.ownBlock = none ∨ v.ownBlock ≠ u.ownBlock
    · refine World.ownsRow.kept hu hg ?_
      rcases hne with h | h
      · exact .inl h
      · exact .inr (fun e => h e.symm)
    · have hub : u.ownBlock ≠ none := fun e => hne (.inl e)
      have hvu : v.ownBlock = u.ownBlock := by
        by_cases h : v.ownBlock = u.ownBlock
        · exact h
        · exact absurd (.inr h) hne
      rcases hu.2 with ⟨rfl, _⟩ | ⟨g, cap, cur, rfl, hb, hh, hnc, hcm, hcs, ht⟩
      · exact absurd rfl hub
      rcases hO.2 with ⟨rfl, _⟩ | ⟨g', cap', cur', rfl, hb', hh', hnc', hcm', hcs', ht'⟩
      · exact absurd hvu.symm hub
      have hgg : g' = g := by simpa [Value.ownBlock] using hvu
      subst hgg
      rw [hh] at hh'
      cases hh'
      obtain rfl : cap = cap' := by omega
      by_cases hroom : (ints q).length + ys.length ≤ cap
      · have hqq := hql' q'
        have hr2 := run_append_room (P := Tryd.prog) W 24 ty 5 i Tryd.underlying24 hi g' (ints q).length cap cur hh a ys.length c (nums .u8 (ints ys)) (by rw [hnl, hsz, Nat.mul_one]) hnews h1 hroom (by rw [hsz, hnl, hcs, Nat.mul_one, Nat.mul_one]; exact hroom)
        rw [hr2] at hr
        injection hr with _ hw
        subst hw
        refine ⟨hu.1, .inr ⟨g', cap, _, rfl, hb, setRow_heap _ _ _ _ _ _ hh, hnc, hcm, ?_, ?_⟩⟩
        · have hcl : cur.toList.length = cap := by simp [hcs]
          rw [hsz, Nat.mul_one, List.size_toArray, List.length_append, List.length_append, List.length_take, List.length_drop, hcl, hnl]
          omega
        · have hcl : cur.toList.length = cap := by simp [hcs]
          show List.take ((ints q').length * 1) (cur.toList.take ((ints q).length * i.size) ++ nums .u8 (ints ys) ++ _) = _
          rw [hsz, Nat.mul_one, List.append_assoc, List.take_append_of_le_length (by rw [List.length_take, hcl]; omega), List.take_take, Nat.min_eq_left (by omega)]
          rw [Nat.mul_one] at ht
          exact ht
      · have hr2 := run_append_grow (P := Tryd.prog) W 24 ty 5 i (.int .u8 0) Tryd.underlying24 hi hz ⟨g', 0, none⟩ (ints q).length cap (nums .u8 (ints q)) (by rw [hsz, Nat.mul_one, nums_length]) (fun j u' hu' => hO.cells (g := g') rfl j u' hu') a ys.length c (nums .u8 (ints ys)) (by rw [hnl, hsz, Nat.mul_one]) hnews (by omega) (by omega) (growslice_fits (by omega) (by rw [hby]; omega))
        rw [hr2] at hr
        injection hr with _ hw
        subst hw
        exact Ob.ext hu (((Ext.refl W).drew).alloc _)
theorem Ob.lower {B B' : Nat} {w : World} {v : Value} {al : List UInt8} (h : Ob B w v al) (hle : B' ≤ B) : Ob B' w v al := own_less h hle
/-- append onto an empty row without room: new memory, or nothing at all -/
theorem run_copyOb {B b : Nat} {W : World} (ty : TypeId) {ys : List UInt8} {A : Option Addr} {c : Nat} (hO : Ob B W (.slice (some ⟨b, 0, none⟩) 0 0) []) (hy : Bs W A ys.length ys) (hB : B ≤ W.heap.size) (hl : ys.length ≤ 100000000000000) :
    ∃ v1 w1, (Builtin.append_ #[24, 24] ty #[.slice (some ⟨b, 0, none⟩) 0 0, .slice A ys.length c]).run Tryd.prog W = .ok v1 w1 ∧ Ext W w1 ∧ Ob B w1 v1 ys := by
  obtain ⟨i, hi, hz, hsz, hby⟩ := i5
  rcases Nat.eq_zero_or_pos ys.length with h0 | h0
  · obtain rfl : ys = [] := List.eq_nil_of_length_eq_zero h0
    refine ⟨_, W, ?_, Ext.refl W, hO⟩
    cases A with
    | none => simp [Builtin.append_, run_underlying Tryd.underlying24, sizeOf, typeInfo, hi, Builtin.lenOf, Builtin.firstCells, storeCells]
    | some a => simp [Builtin.append_, run_underlying Tryd.underlying24, sizeOf, typeInfo, hi, Builtin.lenOf, Builtin.firstCells, storeCells, loadCells, loadCellsFrom]
  · obtain ⟨v1, w1, hr, hO1, _⟩ := run_app2 ty (c := c) hO hy hB (by simp; omega)
    obtain ⟨a, rfl, _⟩ := hy.cells h0
    refine ⟨v1, w1, hr, ?_, by simpa using hO1⟩
    have hnl : (nums .u8 (ints ys)).length = ys.length := by simp [nums, ints]
    have hr2 := run_append_grow (P := Tryd.prog) W 24 ty 5 i (.int .u8 0) Tryd.underlying24 hi hz ⟨b, 0, none⟩ 0 0 [] (by simp) (fun j u hu => by simp at hu) a ys.length c (nums .u8 (ints ys)) (by rw [hnl, hsz, Nat.mul_one]) (by rw [nums_cells]; exact cells_of_bs hy) (by omega) (by omega) (growslice_fits (by omega) (by rw [hby]; omega))
    rw [hr2] at hr
    injection hr with _ hw
    subst hw
    exact ((Ext.refl W).drew).alloc _
set_option maxHeartbeats 2000000 in
set_option maxRecDepth 100000 in
theorem copied2_calls (w : World) (A : Option Addr) (c : Nat) (bs : List UInt8) (hx : Bs w A bs.length bs) (hc : bs.length ≤ c) (hl : bs.length ≤ 100000000000000) :
    Calls Tryd.prog 13 #[.slice A bs.length c] w (fun e w' => ∃ g c', e = .returned (.tuple #[.slice (some ⟨g, 0, none⟩) bs.length c', .slice (some ⟨g, 0, none⟩) (bs.length + 2) c']) ∧ w.heap.size ≤ g ∧ bs.length + 2 ≤ c' ∧ Bs w' (some ⟨g, 0, none⟩) (bs.length + 2) (bs ++ [90, 165]) ∧ Ext w w' ∧ ∃ cur : List Value, bs.length + 2 ≤ cur.length ∧ Row w' g cur 5) := by
  have HX := Aside0.mk hx
  clear hx
  go_enter Tryd.func13, Tryd.ntmps13
  go_wp2_with (with_reducible refine gate_dst (N := 7) rfl ?_; refine Aside0.out ?_)
  refine Aside0.mk ?_
  refine ob_row (w := w) rfl _ _ (.slice (some ⟨w.heap.size, 0, none⟩) 0 0) [] bs A c rfl rfl rfl (Ob.made w) (HX.out.ext ((Ext.refl w).alloc _)) ((Ext.refl w).alloc _) (by simp; omega) ?_
  intro v1 w1 hO1 hE1
  have HO1 := Aside0.mk (show Ob w.heap.size w1 v1 bs from hO1)
  have HE1 := Aside0.mk hE1
  clear hO1 hE1
  go_wp2_with (with_reducible refine gate_dst (N := 10) rfl ?_; refine Aside0.out ?_)
  refine Aside0.mk ?_
  have hEm : Ext w1 (w1.alloc (.cells #[.int .u8 90, .int .u8 165] 5)) := (Ext.refl _).alloc _
  refine ob_row (w := w) rfl _ _ v1 bs [90, 165] (some ⟨w1.heap.size, 0, none⟩) 2 rfl rfl rfl (HO1.out.ext hEm) (Bs.row (Row.alloc w1 ([90, 165].map cell) 5) rfl (by simp)) (HE1.out.trans hEm) (by simp; omega) ?_
  intro v2 w2 hO2 hE2
  obtain ⟨A2, c2, rfl, hc2, hb2⟩ := hO2.open
  have hA : ∃ g, A2 = some ⟨g, 0, none⟩ ∧ w.heap.size ≤ g ∧ ∃ cur : List Value, bs.length + 2 ≤ cur.length ∧ Row w2 g cur 5 := by
    rcases hO2.2 with ⟨he, h0⟩ | ⟨g, cap, cur, he, hg, hh, hnc, _, hcs, _⟩
    · rw [ints_length] at h0; simp at h0
    · injection he with ha _ _
      exact ⟨g, ha, hg, cur.toList, by rw [ints_length] at hnc; simp at hnc; simp [hcs]; omega, by unfold Row; exact hh⟩
  obtain ⟨g, rfl, hg, HCU⟩ := hA
  have hl2 : (bs ++ [90, 165]).length = bs.length + 2 := by simp
  rw [hl2] at hc2 hb2 ⊢
  have HB2 := Aside0.mk hb2
  have HE2 := Aside0.mk hE2
  obtain ⟨i5, hi5, _, hsz, _⟩ := i5
  have hcut := cut_to (P := Tryd.prog) 24 5 .i64 Tryd.underlying24 hi5 (some ⟨g, 0, none⟩) (bs.length + 2) c2 (bs.length : Int) (by omega) (by omega) hc2
  rw [Int.toNat_natCast] at hcut
  clear hO2 hE2 hb2 hEm hl2
  go_wp2_with fail
  go_ret2
  exact ⟨g, c2, rfl, hg, hc2, HB2.out, HE2.out, HCU⟩
end Go.Proofs.YtnkhhnfmijljbaaDoor
set_option linter.unusedVariables false
set_option linter.unusedSimpArgs false
namespace Go.Proofs.YtnkhhnfmijljbaaDoor
open Go.RowKit Go.Proofs.YtnkhhnfmijljbaaDoorW.PrintWords Go.Proofs.YtnkhhnfmijljbaaDoorW.PrintLast Go.Proofs.YtnkhhnfmijljbaaDoorW.PrintMore
open Extern.Stop (cell)

theorem cut_cap (t e : TypeId) (kh : IntKind) {i : TypeInfo} (ht : Tryd.prog.underlying t = some (.slice e)) (hi : Tryd.prog.info? e = some i) (A : Option Addr) (n c : Nat) (j : Int) (h0 : 0 ≤ j) (hm : j ≤ c) :
    ∀ W : World, (Instr.slice t (.slice A n c) none (some (.int kh j)) none).run Tryd.prog W = .ok (.slice A j.toNat c) W := by
  intro W
  have hel : Tryd.prog.elem t = e := by simp [Program.elem, ht]
  have hu : Tryd.prog.underlying t = some (.slice (Tryd.prog.elem t)) := by rw [hel]; exact ht
  have ha : (A.map fun x => x.add 0) = A := by cases A <;> simp [Addr.add]
  rw [run_slice_h W t A n c hu kh j h0 (by omega), hel]
  simp [sizeOf, typeInfo, hi, sliced, Result.andThen, ha]
/-- what Roomy lays behind the bytes -/
def marks4 : List UInt8 := [85, 170, 85, 170]
/-- a row of bytes of the call's own, with Roomy's marks behind the first bytes -/
structure Rm (w : World) (g c : Nat) (bs : List UInt8) : Prop where
  rd : Bs w (some ⟨g, 0, none⟩) (bs.length + 4) (bs ++ marks4)
  cap : bs.length + 4 ≤ c
  row : ∃ cur : List Value, bs.length + 4 ≤ cur.length ∧ Row w g cur 5
theorem Rm.ext {w w' : World} {g c : Nat} {bs : List UInt8} (h : Rm w g c bs) (hE : Ext w w') : Rm w' g c bs := ⟨h.rd.ext hE, h.cap, h.row.imp fun cur h => ⟨h.1, h.2.ext hE⟩⟩
theorem Rm.lt {w : World} {g c : Nat} {bs : List UInt8} (h : Rm w g c bs) : g < w.heap.size := h.row.elim fun cur h => h.2.lt
theorem Rm.only {w w' : World} {g c k : Nat} {bs : List UInt8} (h : Rm w g c bs) (hO : Only w k w') (hne : g ≠ k) : Rm w' g c bs :=
  ⟨h.rd.only hO (fun ad ha _ => by cases ha; exact hne), h.cap, h.row.imp fun cur h => ⟨h.1, hO.row h.2 hne⟩⟩
theorem Rm.bs {w : World} {g c : Nat} {bs : List UInt8} (h : Rm w g c bs) : Bs w (some ⟨g, 0, none⟩) bs.length bs := by
  have hl : (bs ++ marks4).length = bs.length + 4 := by simp [marks4]
  have h1 : Bs w (some ⟨g, 0, none⟩) (bs ++ marks4).length (bs ++ marks4) := by rw [hl]; exact h.rd
  have h2 := h1.take bs.length (by omega)
  rwa [List.take_left' rfl] at h2
set_option maxHeartbeats 2000000 in
set_option maxRecDepth 100000 in
theorem roomy_calls (w : World) (A : Option Addr) (c : Nat) (bs : List UInt8) (hx : Bs w A bs.length bs) (hc : bs.length ≤ c) (hl : bs.length ≤ 100000000000000) :
    Calls Tryd.prog 36 #[.slice A bs.length c] w (fun e w' => ∃ g c', e = .returned (.slice (some ⟨g, 0, none⟩) bs.length c') ∧ w.heap.size ≤ g ∧ Ext w w' ∧ Rm w' g c' bs) := by
  have HX := Aside0.mk hx
  clear hx
  go_enter Tryd.func36, Tryd.ntmps36
  go_wp2_with (with_reducible refine gate_dst (N := 6) rfl ?_; refine Aside0.out ?_)
  refine Aside0.mk ?_
  refine ob_row (w := w) rfl _ _ (.slice (some ⟨w.heap.size, 0, none⟩) 0 0) [] bs A c rfl rfl rfl (Ob.made w) (HX.out.ext ((Ext.refl w).alloc _)) ((Ext.refl w).alloc _) (by simp; omega) ?_
  intro v1 w1 hO1 hE1
  have HO1 := Aside0.mk (show Ob w.heap.size w1 v1 bs from hO1)
  have HE1 := Aside0.mk hE1
  clear hO1 hE1
  go_wp2_with (with_reducible refine gate_dst (N := 9) rfl ?_; refine Aside0.out ?_)
  refine Aside0.mk ?_
  have hEm : Ext w1 (w1.alloc (.cells #[.int .u8 85, .int .u8 170, .int .u8 85, .int .u8 170] 5)) := (Ext.refl _).alloc _
  refine ob_row (w := w) rfl _ _ v1 bs [85, 170, 85, 170] (some ⟨w1.heap.size, 0, none⟩) 4 rfl rfl rfl (HO1.out.ext hEm) (Bs.row (Row.alloc w1 ([85, 170, 85, 170].map cell) 5) rfl (by simp)) (HE1.out.trans hEm) (by simp; omega) ?_
  intro v2 w2 hO2 hE2
  obtain ⟨A2, c2, rfl, hc2, hb2⟩ := hO2.open
  have hA : ∃ g, A2 = some ⟨g, 0, none⟩ ∧ w.heap.size ≤ g ∧ ∃ cur : List Value, bs.length + 4 ≤ cur.length ∧ Row w2 g cur 5 := by
    rcases hO2.2 with ⟨he, h0⟩ | ⟨g, cap, cur, he, hg, hh, hnc, _, hcs, _⟩
    · rw [ints_length] at h0; simp at h0
    · injection he with ha _ _
      exact ⟨g, ha, hg, cur.toList, by rw [ints_length] at hnc; simp at hnc; simp [hcs]; omega, by unfold Row; exact hh⟩
  obtain ⟨g, rfl, hg, HCU⟩ := hA
  have hl2 : (bs ++ [85, 170, 85, 170]).length = bs.length + 4 := by simp
  rw [hl2] at hc2 hb2 ⊢
  have HB2 := Aside0.mk (show Rm w2 g c2 bs from ⟨hb2, hc2, HCU⟩)
  have HE2 := Aside0.mk hE2
  obtain ⟨i5, hi5, _, hsz, _⟩ := i5
  have hcut := cut_to (P := Tryd.prog) 24 5 .i64 Tryd.underlying24 hi5 (some ⟨g, 0, none⟩) (bs.length + 4) c2 (bs.length : Int) (by omega) (by omega) hc2
  rw [Int.toNat_natCast] at hcut
  clear hO2 hE2 hb2 hEm hl2
  go_wp2_with fail
  go_ret
  exact ⟨g, c2, rfl, hg, HE2.out, HB2.out⟩
theorem exec_conv {w : World} {ρ : Operand → Value} {o : Oper} {x : Operand} {t u : TypeId} (ho : o.op = .convert t u x) {v : Value} {w1 : World} (h : (convert t u (ρ x)).run Tryd.prog w = .ok v w1) : (execOp ρ o).run Tryd.prog w = .ok (.value v) w1 := by
  unfold execOp; rw [ho]; simp [h]
theorem conv_str {w : World} {A : Option Addr} {n c : Nat} {xs : List UInt8} (h : Bs w A n xs) : (convert 24 9 (.slice A n c)).run Tryd.prog w = .ok (.string (strB xs)) w := by
  rw [← strOf_strB]; exact Kd.C_string Tryd.underlying24 Tryd.underlying5 Tryd.underlying9 h
set_option maxHeartbeats 2000000 in
set_option maxRecDepth 100000 in
theorem aswas_calls (w : World) (g n c : Nat) (bs : List UInt8) (A1 : Option Addr) (c1 : Nat) (hx : Rm w g c bs) (hy : Bs w A1 bs.length bs) (hl : bs.length ≤ 100000000000000) :
    Calls Tryd.prog 38 #[.slice (some ⟨g, 0, none⟩) n c, .slice A1 bs.length c1] w (fun e w' => e = .returned (.bool true) ∧ Ext w w') := by
  obtain ⟨ad, had⟩ : ∃ ad : Addr, ad = ⟨g, 0, none⟩ := ⟨_, rfl⟩
  obtain ⟨mk, hmk⟩ : ∃ mk, mk = marks4 := ⟨_, rfl⟩
  have hx1 := hx.rd
  rw [← had, ← hmk] at hx1
  rw [← had]
  have hcap := hx.cap
  have HX := Aside0.mk hx1
  have HY := Aside0.mk hy
  have HMK := Aside0.mk (show ∀ l : List UInt8, strB l ++ { data := #[85, 170, 85, 170] } = strB (l ++ mk) from fun l => by rw [hmk]; unfold strB marks4; apply ByteArray.ext; simp)
  obtain ⟨i5, hi5, _, hsz, _⟩ := i5
  have hcut := cut_cap 24 5 .i64 Tryd.underlying24 hi5 (some ad) n c ((bs.length : Int) + 4) (by omega) (by omega)
  rw [show ((bs.length : Int) + 4).toNat = bs.length + 4 by omega] at hcut
  have HCUT := Aside0.mk hcut
  have b5 := IntWalk.i64_in ((bs.length : Int) + 4) (by omega)
  clear hx hy hx1 had hmk hcut hi5 hsz hcap
  go_enter Tryd.func38, Tryd.ntmps38
  go_wp2_with fail
  refine ext_region 11 [(0, 5), (1, 6), (2, 7), (3, 8), (4, 9), (5, 10), (6, 11), (7, 12), (8, 13), (9, 14), (10, 4)] [0, 1, 2, 3, 4, 5, 6, 7, 8, 9, 10] (fun i w v => match i with | 0 => v = .slice (some ad) n c | 1 => v = .slice A1 bs.length c1 | 2 => v = .int .i64 bs.length | 3 => v = .int .i64 (bs.length + 4) | 4 => v = .slice (some ad) (bs.length + 4) c | 5 => v = .string (strB (bs ++ mk)) | 6 => v = .slice A1 bs.length c1 | 7 => v = .string (strB bs) | 8 => v = .string (strB (bs ++ mk)) | 9 => v = .bool true | 10 => v = .bool true | _ => True) (by kernel_rfl) (by kernel_rfl) (by rfl) rfl ?mono1 ?steps1 ?fin1
  case mono1 =>
    intro i w w' v h hE
    match i with
    | 0 => exact h
    | 1 => exact h
    | 2 => exact h
    | 3 => exact h
    | 4 => exact h
    | 5 => exact h
    | 6 => exact h
    | 7 => exact h
    | 8 => exact h
    | 9 => exact h
    | 10 => exact h
    | _ + 11 => trivial
  case steps1 =>
    refine stepE_cons ⟨_, rfl, fun a w hE hH => ?_⟩ ?_
    ·
      have e0 : a.tmps[0]? = some (.slice (some ad) n c) := hH.old 0 rfl
      exact Or.inl ⟨rfl, goodE_move _ rfl (eval_of e0) rfl⟩
    refine stepE_cons ⟨_, rfl, fun a w hE hH => ?_⟩ ?_
    ·
      have e1 : a.tmps[1]? = some (.slice A1 bs.length c1) := hH.old 1 rfl
      exact Or.inl ⟨rfl, goodE_move _ rfl (eval_of e1) rfl⟩
    refine stepE_cons ⟨_, rfl, fun a w hE hH => ?_⟩ ?_
    ·
      obtain ⟨v6, e6, g6⟩ := hH.dep 1 6 rfl (by kernel_rfl)
      have q6 : v6 = .slice A1 bs.length c1 := g6
      subst q6
      exact Or.inl ⟨rfl, goodE_val (.int .i64 bs.length) (by simp [execOp, Act.eval, e6, go_sem]) rfl⟩
    refine stepE_cons ⟨_, rfl, fun a w hE hH => ?_⟩ ?_
    ·
      obtain ⟨v7, e7, g7⟩ := hH.dep 2 7 rfl (by kernel_rfl)
      have q7 : v7 = .int .i64 bs.length := g7
      subst q7
      exact Or.inl ⟨(rfl), goodE_val (.int .i64 (bs.length + 4)) (by simp [execOp, Act.eval, e7, go_sem, b5]) rfl⟩
    refine stepE_cons ⟨_, rfl, fun a w hE hH => ?_⟩ ?_
    ·
      obtain ⟨v5, e5, g5⟩ := hH.dep 0 5 rfl (by kernel_rfl)
      have q5 : v5 = .slice (some ad) n c := g5
      subst q5
      obtain ⟨v8, e8, g8⟩ := hH.dep 3 8 rfl (by kernel_rfl)
      have q8 : v8 = .int .i64 (bs.length + 4) := g8
      subst q8
      exact Or.inl ⟨(rfl), goodE_val (.slice (some ad) (bs.length + 4) c) (exec_slice rfl (by simp only [Option.map_some, Option.map_none, eval_of e5, eval_of e8]; exact HCUT.out w)) rfl⟩
    refine stepE_cons ⟨_, rfl, fun a w hE hH => ?_⟩ ?_
    ·
      obtain ⟨v9, e9, g9⟩ := hH.dep 4 9 rfl (by kernel_rfl)
      have q9 : v9 = .slice (some ad) (bs.length + 4) c := g9
      subst q9
      exact Or.inl ⟨(rfl), goodE_val (.string (strB (bs ++ mk))) (exec_conv (x := .tmp 9) rfl (by rw [eval_of e9]; exact conv_str (HX.out.ext ((Ext.to_drew _).trans hE)))) rfl⟩
    refine stepE_cons ⟨_, rfl, fun a w hE hH => ?_⟩ ?_
    ·
      have e1 : a.tmps[1]? = some (.slice A1 bs.length c1) := hH.old 1 rfl
      exact Or.inl ⟨rfl, goodE_move _ rfl (eval_of e1) rfl⟩
    refine stepE_cons ⟨_, rfl, fun a w hE hH => ?_⟩ ?_
    ·
      obtain ⟨v11, e11, g11⟩ := hH.dep 6 11 rfl (by kernel_rfl)
      have q11 : v11 = .slice A1 bs.length c1 := g11
      subst q11
      exact Or.inl ⟨(rfl), goodE_val (.string (strB bs)) (exec_conv (x := .tmp 11) rfl (by rw [eval_of e11]; exact conv_str (HY.out.ext ((Ext.to_drew _).trans hE)))) rfl⟩
    refine stepE_cons ⟨_, rfl, fun a w hE hH => ?_⟩ ?_
    ·
      obtain ⟨v12, e12, g12⟩ := hH.dep 7 12 rfl (by kernel_rfl)
      have q12 : v12 = .string (strB bs) := g12
      subst q12
      exact Or.inl ⟨(rfl), goodE_val (.string (strB (bs ++ mk))) (by rw [← HMK.out bs]; simp [execOp, Act.eval, e12, go_sem, Tryd.underlying9, strB_size]; omega) rfl⟩
    refine stepE_cons ⟨_, rfl, fun a w hE hH => ?_⟩ ?_
    ·
      obtain ⟨v10, e10, g10⟩ := hH.dep 5 10 rfl (by kernel_rfl)
      have q10 : v10 = .string (strB (bs ++ mk)) := g10
      subst q10
      obtain ⟨v13, e13, g13⟩ := hH.dep 8 13 rfl (by kernel_rfl)
      have q13 : v13 = .string (strB (bs ++ mk)) := g13
      subst q13
      exact Or.inl ⟨(rfl), goodE_val (.bool true) (by simp [execOp, Act.eval, e10, e13, go_sem]) rfl⟩
    refine stepE_cons ⟨_, rfl, fun a w hE hH => ?_⟩ ?_
    ·
      obtain ⟨v14, e14, g14⟩ := hH.dep 9 14 rfl (by kernel_rfl)
      exact Or.inl ⟨rfl, goodE_assign v14 rfl (eval_of e14) g14⟩
    exact stepE_nil
  rintro vals wz hE hV
  have k4 : vals 10 = .bool true := hV 10 (by simp) rfl
  simp only [List.map_cons, List.map_nil, putAll, Act.put, List.setIfInBounds_toArray, List.set_cons_zero, List.set_cons_succ, k4]
  have HE1 := Aside0.mk ((Ext.to_drew _).trans hE)
  clear hE hV k4
  go_wp2
  go_ret
  exact ⟨rfl, HE1.out⟩
theorem x3c (x : UInt8) : bits .xor .u8 (n8 x) (60 : Int) = n8 (x ^^^ 0x3c) := bits_u8_xor x 0x3c
set_option maxHeartbeats 2000000 in
set_option maxRecDepth 100000 in
theorem over_calls (w : World) (g n c : Nat) (bs : List UInt8) (hx : Rm w g c bs) :
    Calls Tryd.prog 39 #[.slice (some ⟨g, 0, none⟩) bs.length c] w (fun e w' => e = .returned (.tuple #[]) ∧ Only w g w') := by
  have hmx := hx.rd.max
  obtain ⟨cur, hcl, hcur⟩ := hx.row
  have HRD := Aside0.mk hx.bs
  have HC := Aside0.mk hcur
  have HW := Aside0.mk (show ∀ k, k < bs.length → ∃ x : UInt8, cur[k]? = some (.int .u8 (n8 x)) from fun k hk => by
    obtain ⟨ad, ha, hcell⟩ := hx.bs.cell k hk
    cases ha
    obtain ⟨y, hy⟩ : ∃ y, cur[k]? = some y := ⟨_, List.getElem?_eq_getElem (by omega)⟩
    have h1 := hcur.cell hy
    rw [addr_add, Nat.zero_add] at hcell
    rw [h1] at hcell
    exact ⟨_, by rw [hy]; exact hcell⟩)
  clear hx hcur
  go_enter Tryd.func39, Tryd.ntmps39
  go_wp2_with fail
  go_loopw [5] (fun i wr => ∃ (k : Nat) (L : List Value), k ≤ bs.length ∧ i = .int .i64 k ∧ Only w g wr ∧ Row wr g L 5 ∧ L.length = cur.length ∧ ∀ j, k ≤ j → L[j]? = cur[j]?) (fun i _ => bs.length - (intOf i).toNat)
  case atStart => exact ⟨0, cur, by omega, rfl, Only.refl _ _, HC.out, rfl, fun j _ => rfl⟩
  case round =>
    obtain ⟨k, L, hk, rfl, hO, hR, hLl, hL⟩ := hrel
    have HO := Aside0.mk hO
    have HR := Aside0.mk hR
    have HLl := Aside0.mk hLl
    have HL := Aside0.mk hL
    by_cases hlt : k < bs.length
    · obtain ⟨x, hx⟩ := HW.out k hlt
      have c0 := hR.cell (show L[k]? = some (.int .u8 (n8 x)) by rw [hL k (Nat.le_refl _)]; exact hx)
      have cf := hR.free k
      have hxx := x3c x
      have b4 : (0 : Int) ≤ k ∧ (k : Int) < bs.length ∧ (k : Int) < 9223372036854775807 := by omega
      clear hO hR hLl hL hx
      go_wp2
      go_roundw
      case rel => exact ⟨k + 1, L.set k (.int .u8 (n8 (x ^^^ 0x3c))), by omega, by simp, HO.out.set k _, HR.out.set k _, by simpa using HLl.out, fun j hj => by rw [List.getElem?_set_ne (by omega)]; exact HL.out j (by omega)⟩
      case measure => simp [intOf]; omega
    · obtain rfl : k = bs.length := by omega
      clear hO hR hLl hL
      go_wp2
      go_end0
      exact ⟨rfl, HO.out⟩
end Go.Proofs.YtnkhhnfmijljbaaDoor
set_option linter.unusedVariables false
set_option linter.unusedSimpArgs false
namespace Go.Proofs.YtnkhhnfmijljbaaDoor
open Go.RowKit Go.Proofs.YtnkhhnfmijljbaaDoorW.PrintWords Go.Proofs.YtnkhhnfmijljbaaDoorW.PrintLast Go.Proofs.YtnkhhnfmijljbaaDoorW.PrintMore
open Extern.Stop (cell)

theorem xx (x y : UInt8) : bits .xor .u8 (n8 x) (n8 y) = n8 (x ^^^ y) := bits_u8_xor x y
theorem made64 : madeCells #[Value.int .u8 0] 64 = ((List.replicate 64 (0 : UInt8)).map cell).toArray := by kernel_rfl
/-- a block of the call's own was written -/
theorem ext_own {B : Nat} {w w3 w4 : World} (h : Ext w w3) (hB : B = w.heap.size) (hO : Only w3 B w4) : Ext w w4 := below_only h hO (by omega) h.size
/-- what is left of block when the row is filled -/
def LBl (w w' : World) (e : Ending) (xs : List UInt8) (x : UInt8) : Prop := ∃ b, e = .returned (.slice (some ⟨b, 0, none⟩) 64 64) ∧ w.heap.size ≤ b ∧ Ext w w' ∧ Row w' b ((Spec.xorL x (Spec.key xs)).map cell) 5
set_option maxHeartbeats 1000000 in
set_option maxRecDepth 100000 in
theorem lblock_calls (w : World) (A : Option Addr) (c : Nat) (xs : List UInt8) (x : UInt8) (hK : KTab w) (hF : FTab w) (hx : Bs w A xs.length xs) (hc : xs.length ≤ c) (hl : xs.length < 500000000000000000) :
    Calls Tryd.prog 25 #[.slice A xs.length c, .int .u8 (n8 x)] w (fun e w' => LBl w w' e xs x) := by
  obtain ⟨B, hBdef⟩ : ∃ B, B = w.heap.size := ⟨_, rfl⟩
  have HBD := Aside0.mk hBdef
  have HK := Aside0.mk hK
  have HF := Aside0.mk hF
  have HX := Aside0.mk hx
  clear hK hF hx
  have hmk := print_make (P := Tryd.prog) 24 5 .u8 1 Tryd.underlying24 info5 (by omega) 64 (by omega)
  rw [show ((64 : Nat) : Int) = 64 from rfl] at hmk
  by_cases h64 : 64 < xs.length
  · have h64' : (64 : Int) < xs.length := by omega
    go_enter Tryd.func25, Tryd.ntmps25
    go_wp2_with fail
    have hE1 : Ext w (w.alloc (.cells (madeCells #[Value.int .u8 0] 64) 5)) := (Ext.refl w).alloc _
    have hR1 : Row (w.alloc (.cells (madeCells #[Value.int .u8 0] 64) 5)) B ((List.replicate 64 (0 : UInt8)).map cell) 5 := by rw [hBdef, made64]; exact Row.alloc _ _ _
    have hcall := sumOne_calls _ A xs.length c xs (HK.out.ext hE1) (HF.out.ext hE1) (HX.out.ext hE1) hc hl
    rw [show (w.alloc (.cells (madeCells #[Value.int .u8 0] 64) 5)).heap.size = w.heap.size + 1 by simp] at hcall
    with_reducible refine hcall.mono ?_
    rintro e w2 ⟨rfl, hE2⟩
    have HE2 := Aside0.mk (hE1.trans hE2)
    have HR2 := Aside0.mk (hR1.ext hE2)
    rw [← hBdef]
    clear hE1 hE2 hR1 hmk hBdef hcall
    go_wp2_with (with_reducible change wpList _ _ _ (Oper.mk _ (Op.store 28 _ _) _ _ _ _ :: _) _ _; refine Aside0.out ?_)
    refine Aside0.mk ?_
    refine wpList_store_row rfl 28 _ _ rfl w2.heap.size ((Spec.digest xs).map cell).toArray rfl (by simp only [go_sem, hashV, Act.eval, Act.put]; rfl) 28 _ (heap_alloc_new _ _) (by kernel_rfl) rfl (oneCells _) ?_
    obtain ⟨R, hR⟩ : ∃ R, R = w2.heap.size := ⟨_, rfl⟩
    have hEr : Ext w2 ((w2.alloc (.cells (z8 32).toArray 28)).setRow w2.heap.size ((Spec.digest xs).map cell).toArray) := below_alloc_setRow _ _ _
    refine wpList_world (fun w3 => Ext w w3 ∧ Row w3 B ((List.replicate 64 (0 : UInt8)).map cell) 5 ∧ Row w3 R ((Spec.digest xs).map cell) 28) ⟨HE2.out.trans hEr, HR2.out.ext hEr, by rw [hR]; exact alloc_setRow _ _ _ _⟩ ?_
    rintro w3 ⟨hE3, hZ3, hR3⟩
    rw [← hR]
    have HE3 := Aside0.mk hE3
    have HZ3 := Aside0.mk hZ3
    have hdl : (Spec.digest xs).length = 32 := Spec.digest_length xs
    have HBS := Aside0.mk (Bs.row hR3 (n := 32) (by rw [Spec.digest_length]) (by rw [Spec.digest_length]; omega))
    clear hE3 hZ3 hR3 hR hEr
    go_wp2_with (with_reducible refine gate_dst (N := 17) rfl ?_; refine Aside0.out ?_)
    refine Aside0.mk ?_
    refine wpL_copy (F := fun _ w4 => Only w3 B w4 ∧ Row w4 B ((Spec.key xs).map cell) 5) ?_ ?_
    · obtain ⟨k, w4, hr, hO, hR⟩ := run_copy_into w3 3 B (List.replicate 64 0) 5 64 64 (some ⟨R, 0, none⟩) 32 (Spec.digest xs) HZ3.out rfl (by rw [hdl]; exact HBS.out) (by rw [hdl, List.length_replicate]; omega)
      rw [hdl] at hr
      refine ⟨k, w4, hr, hO, ?_⟩
      have e : Spec.key xs = Spec.digest xs ++ (List.replicate 64 0).drop (Spec.digest xs).length := by rw [Spec.key, if_pos h64, List.drop_replicate]
      rw [e]
      exact hR
    clear hdl
    rintro v4 w4 ⟨hO4, hR4⟩
    have HE4 := Aside0.mk (ext_own (B := B) HE3.out HBD.out hO4)
    have HR4 := Aside0.mk hR4
    obtain ⟨ks, hks⟩ : ∃ ks, ks = Spec.key xs := ⟨_, rfl⟩
    have hkl : ks.length = 64 := by rw [hks]; exact Spec.key_length xs
    rw [← hks] at HR4
    have HKS := Aside0.mk hks
    have HKL := Aside0.mk hkl
    clear hO4 hR4 hks hkl
    go_wp2_with fail
    go_loopw [23] (fun i wr => ∃ j : Nat, j ≤ 64 ∧ i = .int .i64 j ∧ Ext w wr ∧ Row wr B ((mixL x ks j).map cell) 5) (fun i _ => 64 - (intOf i).toNat)
    case atStart => exact ⟨0, by omega, rfl, HE4.out, by rw [mixL_zero]; exact HR4.out⟩
    case round =>
      obtain ⟨j, hj, rfl, hE, hR⟩ := hrel
      have HE := Aside0.mk hE
      have HR := Aside0.mk hR
      by_cases hlt : j < 64
      · have hjl : j < ks.length := by rw [HKL.out]; exact hlt
        obtain ⟨y, hy⟩ : ∃ y, y = ks.getD j 0 := ⟨_, rfl⟩
        have c0 := hR.cell (mixC_at x ks j hjl)
        rw [← hy] at c0
        have cf := hR.free j
        have hxx := xx y x
        have b4 : (0 : Int) ≤ j ∧ (j : Int) < 64 := by omega
        have HY := Aside0.mk hy
        have HJL := Aside0.mk hjl
        clear hE hR hy hjl
        go_wp2
        go_roundw
        case rel =>
          refine ⟨j + 1, by omega, by simp, Below.setCell HE.out (p := ⟨B, j, none⟩) (by show w.heap.size ≤ B; rw [HBD.out]; exact Nat.le_refl _) _, ?_⟩
          have h := HR.out.set j (.int .u8 (n8 (y ^^^ x)))
          rw [HY.out, mixC_set x ks j HJL.out] at h
          rw [HY.out]; exact h
        case measure => simp [intOf]; omega
      · obtain rfl : j = 64 := by omega
        rw [mixL_full x ks 64 (by rw [HKL.out]; omega)] at hR
        have HRx := Aside0.mk hR
        clear hE hR HR
        go_wp2
        go_ret
        exact ⟨B, rfl, by rw [HBD.out]; exact Nat.le_refl _, HE.out, by rw [← HKS.out]; exact HRx.out⟩
  · have h64' : ¬ ((64 : Int) < xs.length) := by omega
    go_enter Tryd.func25, Tryd.ntmps25
    go_wp2_with (with_reducible refine gate_dst (N := 20) rfl ?_; refine Aside0.out ?_)
    refine Aside0.mk ?_
    have hE1 : Ext w (w.alloc (.cells (madeCells #[Value.int .u8 0] 64) 5)) := (Ext.refl w).alloc _
    have hR1 : Row (w.alloc (.cells (madeCells #[Value.int .u8 0] 64) 5)) B ((List.replicate 64 (0 : UInt8)).map cell) 5 := by rw [hBdef, made64]; exact Row.alloc _ _ _
    refine wpList_world (fun w3 => Ext w w3 ∧ Row w3 B ((List.replicate 64 (0 : UInt8)).map cell) 5) ⟨hE1, hR1⟩ ?_
    rintro w3 ⟨hE3, hZ3⟩
    rw [← hBdef]
    have HE3 := Aside0.mk hE3
    have HZ3 := Aside0.mk hZ3
    have HX3 := Aside0.mk (HX.out.ext hE3)
    clear hE3 hZ3 hE1 hR1 hmk hBdef
    refine wpL_copy (F := fun _ w4 => Only w3 B w4 ∧ Row w4 B ((Spec.key xs).map cell) 5) ?_ ?_
    · obtain ⟨k, w4, hr, hO, hR⟩ := run_copy_into w3 3 B (List.replicate 64 0) 5 64 64 A c xs HZ3.out rfl HX3.out (by rw [List.length_replicate]; omega)
      refine ⟨k, w4, hr, hO, ?_⟩
      have e : Spec.key xs = xs ++ (List.replicate 64 0).drop xs.length := by rw [Spec.key, if_neg h64, List.drop_replicate]
      rw [e]
      exact hR
    rintro v4 w4 ⟨hO4, hR4⟩
    have HE4 := Aside0.mk (ext_own (B := B) HE3.out HBD.out hO4)
    have HR4 := Aside0.mk hR4
    obtain ⟨ks, hks⟩ : ∃ ks, ks = Spec.key xs := ⟨_, rfl⟩
    have hkl : ks.length = 64 := by rw [hks]; exact Spec.key_length xs
    rw [← hks] at HR4
    have HKS := Aside0.mk hks
    have HKL := Aside0.mk hkl
    clear hO4 hR4 hks hkl
    go_wp2_with fail
    go_loopw [23] (fun i wr => ∃ j : Nat, j ≤ 64 ∧ i = .int .i64 j ∧ Ext w wr ∧ Row wr B ((mixL x ks j).map cell) 5) (fun i _ => 64 - (intOf i).toNat)
    case atStart => exact ⟨0, by omega, rfl, HE4.out, by rw [mixL_zero]; exact HR4.out⟩
    case round =>
      obtain ⟨j, hj, rfl, hE, hR⟩ := hrel
      have HE := Aside0.mk hE
      have HR := Aside0.mk hR
      by_cases hlt : j < 64
      · have hjl : j < ks.length := by rw [HKL.out]; exact hlt
        obtain ⟨y, hy⟩ : ∃ y, y = ks.getD j 0 := ⟨_, rfl⟩
        have c0 := hR.cell (mixC_at x ks j hjl)
        rw [← hy] at c0
        have cf := hR.free j
        have hxx := xx y x
        have b4 : (0 : Int) ≤ j ∧ (j : Int) < 64 := by omega
        have HY := Aside0.mk hy
        have HJL := Aside0.mk hjl
        clear hE hR hy hjl
        go_wp2
        go_roundw
        case rel =>
          refine ⟨j + 1, by omega, by simp, Below.setCell HE.out (p := ⟨B, j, none⟩) (by show w.heap.size ≤ B; rw [HBD.out]; exact Nat.le_refl _) _, ?_⟩
          have h := HR.out.set j (.int .u8 (n8 (y ^^^ x)))
          rw [HY.out, mixC_set x ks j HJL.out] at h
          rw [HY.out]; exact h
        case measure => simp [intOf]; omega
      · obtain rfl : j = 64 := by omega
        rw [mixL_full x ks 64 (by rw [HKL.out]; omega)] at hR
        have HRx := Aside0.mk hR
        clear hE hR HR
        go_wp2
        go_ret
        exact ⟨B, rfl, by rw [HBD.out]; exact Nat.le_refl _, HE.out, by rw [← HKS.out]; exact HRx.out⟩
end Go.Proofs.YtnkhhnfmijljbaaDoor
set_option linter.unusedVariables false
set_option linter.unusedSimpArgs false
namespace Go.Proofs.YtnkhhnfmijljbaaDoor
open Go.RowKit Go.Proofs.YtnkhhnfmijljbaaDoorW.PrintWords Go.Proofs.YtnkhhnfmijljbaaDoorW.PrintLast Go.Proofs.YtnkhhnfmijljbaaDoorW.PrintMore
open Extern.Stop (cell)

set_option maxHeartbeats 1000000 in
set_option maxRecDepth 100000 in
theorem refBlock_calls (w : World) (A : Option Addr) (c : Nat) (xs : List UInt8) (x : UInt8) (hR : RTab w) (hx : Bs w A xs.length xs) (hc : xs.length ≤ c) (hl : xs.length ≤ 10000000000000) :
    Calls Tryd.prog 44 #[.slice A xs.length c, .int .u8 (n8 x)] w (fun e w' => LBl w w' e xs x) := by
  obtain ⟨B, hBdef⟩ : ∃ B, B = w.heap.size := ⟨_, rfl⟩
  have HBD := Aside0.mk hBdef
  have HR := Aside0.mk hR
  have HX := Aside0.mk hx
  clear hR hx
  have hmk := print_make (P := Tryd.prog) 24 5 .u8 1 Tryd.underlying24 info5 (by omega) 64 (by omega)
  rw [show ((64 : Nat) : Int) = 64 from rfl] at hmk
  by_cases h64 : 64 < xs.length
  · have h64' : (64 : Int) < xs.length := by omega
    go_enter Tryd.func44, Tryd.ntmps44
    go_wp2_with fail
    have hE1 : Ext w (w.alloc (.cells (madeCells #[Value.int .u8 0] 64) 5)) := (Ext.refl w).alloc _
    have hR1 : Row (w.alloc (.cells (madeCells #[Value.int .u8 0] 64) 5)) B ((List.replicate 64 (0 : UInt8)).map cell) 5 := by rw [hBdef, made64]; exact Row.alloc _ _ _
    have hcall := refSum_calls _ A c xs (HR.out.ext hE1) (HX.out.ext hE1) hc hl
    with_reducible refine hcall.mono ?_
    rintro e w2 ⟨rfl, hE2⟩
    have HE2 := Aside0.mk (hE1.trans hE2)
    have HR2 := Aside0.mk (hR1.ext hE2)
    rw [← hBdef]
    clear hE1 hE2 hR1 hmk hBdef hcall
    go_wp2_with (with_reducible change wpList _ _ _ (Oper.mk _ (Op.store 28 _ _) _ _ _ _ :: _) _ _; refine Aside0.out ?_)
    refine Aside0.mk ?_
    refine wpList_store_row rfl 28 _ _ rfl w2.heap.size ((Spec.digest xs).map cell).toArray rfl (by simp only [go_sem, hashV, Act.eval, Act.put]; rfl) 28 _ (heap_alloc_new _ _) (by kernel_rfl) rfl (oneCells _) ?_
    obtain ⟨R, hR⟩ : ∃ R, R = w2.heap.size := ⟨_, rfl⟩
    have hEr : Ext w2 ((w2.alloc (.cells (z8 32).toArray 28)).setRow w2.heap.size ((Spec.digest xs).map cell).toArray) := below_alloc_setRow _ _ _
    refine wpList_world (fun w3 => Ext w w3 ∧ Row w3 B ((List.replicate 64 (0 : UInt8)).map cell) 5 ∧ Row w3 R ((Spec.digest xs).map cell) 28) ⟨HE2.out.trans hEr, HR2.out.ext hEr, by rw [hR]; exact alloc_setRow _ _ _ _⟩ ?_
    rintro w3 ⟨hE3, hZ3, hR3⟩
    rw [← hR]
    have HE3 := Aside0.mk hE3
    have HZ3 := Aside0.mk hZ3
    have hdl : (Spec.digest xs).length = 32 := Spec.digest_length xs
    have HBS := Aside0.mk (Bs.row hR3 (n := 32) (by rw [Spec.digest_length]) (by rw [Spec.digest_length]; omega))
    clear hE3 hZ3 hR3 hR hEr
    go_wp2_with (with_reducible refine gate_dst (N := 16) rfl ?_; refine Aside0.out ?_)
    refine Aside0.mk ?_
    refine wpL_copy (F := fun _ w4 => Only w3 B w4 ∧ Row w4 B ((Spec.key xs).map cell) 5) ?_ ?_
    · obtain ⟨k, w4, hr, hO, hR⟩ := run_copy_into w3 3 B (List.replicate 64 0) 5 64 64 (some ⟨R, 0, none⟩) 32 (Spec.digest xs) HZ3.out rfl (by rw [hdl]; exact HBS.out) (by rw [hdl, List.length_replicate]; omega)
      rw [hdl] at hr
      refine ⟨k, w4, hr, hO, ?_⟩
      have e : Spec.key xs = Spec.digest xs ++ (List.replicate 64 0).drop (Spec.digest xs).length := by rw [Spec.key, if_pos h64, List.drop_replicate]
      rw [e]
      exact hR
    clear hdl
    rintro v4 w4 ⟨hO4, hR4⟩
    have HE4 := Aside0.mk (ext_own (B := B) HE3.out HBD.out hO4)
    have HR4 := Aside0.mk hR4
    obtain ⟨ks, hks⟩ : ∃ ks, ks = Spec.key xs := ⟨_, rfl⟩
    have hkl : ks.length = 64 := by rw [hks]; exact Spec.key_length xs
    rw [← hks] at HR4
    have HKS := Aside0.mk hks
    have HKL := Aside0.mk hkl
    clear hO4 hR4 hks hkl
    go_wp2_with fail
    go_loopw [7] (fun i wr => ∃ j : Nat, j ≤ 64 ∧ i = .int .i64 j ∧ Ext w wr ∧ Row wr B ((mixL x ks j).map cell) 5) (fun i _ => 64 - (intOf i).toNat)
    case atStart => exact ⟨0, by omega, rfl, HE4.out, by rw [mixL_zero]; exact HR4.out⟩
    case round =>
      obtain ⟨j, hj, rfl, hE, hR⟩ := hrel
      have HE := Aside0.mk hE
      have HRr := Aside0.mk hR
      by_cases hlt : j < 64
      · have hjl : j < ks.length := by rw [HKL.out]; exact hlt
        obtain ⟨y, hy⟩ : ∃ y, y = ks.getD j 0 := ⟨_, rfl⟩
        have c0 := hR.cell (mixC_at x ks j hjl)
        rw [← hy] at c0
        have cf := hR.free j
        have hxx := xx y x
        have b4 : (0 : Int) ≤ j ∧ (j : Int) < 64 := by omega
        have HY := Aside0.mk hy
        have HJL := Aside0.mk hjl
        clear hE hR hy hjl
        go_wp2
        go_roundw
        case rel =>
          refine ⟨j + 1, by omega, by simp, Below.setCell HE.out (p := ⟨B, j, none⟩) (by show w.heap.size ≤ B; rw [HBD.out]; exact Nat.le_refl _) _, ?_⟩
          have h := HRr.out.set j (.int .u8 (n8 (y ^^^ x)))
          rw [HY.out, mixC_set x ks j HJL.out] at h
          rw [HY.out]; exact h
        case measure => simp [intOf]; omega
      · obtain rfl : j = 64 := by omega
        rw [mixL_full x ks 64 (by rw [HKL.out]; omega)] at hR
        have HRx := Aside0.mk hR
        clear hE hR HRr
        go_wp2
        go_ret
        exact ⟨B, rfl, by rw [HBD.out]; exact Nat.le_refl _, HE.out, by rw [← HKS.out]; exact HRx.out⟩
  · have h64' : ¬ ((64 : Int) < xs.length) := by omega
    go_enter Tryd.func44, Tryd.ntmps44
    go_wp2_with (with_reducible refine gate_dst (N := 19) rfl ?_; refine Aside0.out ?_)
    refine Aside0.mk ?_
    have hE1 : Ext w (w.alloc (.cells (madeCells #[Value.int .u8 0] 64) 5)) := (Ext.refl w).alloc _
    have hR1 : Row (w.alloc (.cells (madeCells #[Value.int .u8 0] 64) 5)) B ((List.replicate 64 (0 : UInt8)).map cell) 5 := by rw [hBdef, made64]; exact Row.alloc _ _ _
    refine wpList_world (fun w3 => Ext w w3 ∧ Row w3 B ((List.replicate 64 (0 : UInt8)).map cell) 5) ⟨hE1, hR1⟩ ?_
    rintro w3 ⟨hE3, hZ3⟩
    rw [← hBdef]
    have HE3 := Aside0.mk hE3
    have HZ3 := Aside0.mk hZ3
    have HX3 := Aside0.mk (HX.out.ext hE3)
    clear hE3 hZ3 hE1 hR1 hmk hBdef
    refine wpL_copy (F := fun _ w4 => Only w3 B w4 ∧ Row w4 B ((Spec.key xs).map cell) 5) ?_ ?_
    · obtain ⟨k, w4, hr, hO, hR⟩ := run_copy_into w3 3 B (List.replicate 64 0) 5 64 64 A c xs HZ3.out rfl HX3.out (by rw [List.length_replicate]; omega)
      refine ⟨k, w4, hr, hO, ?_⟩
      have e : Spec.key xs = xs ++ (List.replicate 64 0).drop xs.length := by rw [Spec.key, if_neg h64, List.drop_replicate]
      rw [e]
      exact hR
    rintro v4 w4 ⟨hO4, hR4⟩
    have HE4 := Aside0.mk (ext_own (B := B) HE3.out HBD.out hO4)
    have HR4 := Aside0.mk hR4
    obtain ⟨ks, hks⟩ : ∃ ks, ks = Spec.key xs := ⟨_, rfl⟩
    have hkl : ks.length = 64 := by rw [hks]; exact Spec.key_length xs
    rw [← hks] at HR4
    have HKS := Aside0.mk hks
    have HKL := Aside0.mk hkl
    clear hO4 hR4 hks hkl
    go_wp2_with fail
    go_loopw [7] (fun i wr => ∃ j : Nat, j ≤ 64 ∧ i = .int .i64 j ∧ Ext w wr ∧ Row wr B ((mixL x ks j).map cell) 5) (fun i _ => 64 - (intOf i).toNat)
    case atStart => exact ⟨0, by omega, rfl, HE4.out, by rw [mixL_zero]; exact HR4.out⟩
    case round =>
      obtain ⟨j, hj, rfl, hE, hR⟩ := hrel
      have HE := Aside0.mk hE
      have HRr := Aside0.mk hR
      by_cases hlt : j < 64
      · have hjl : j < ks.length := by rw [HKL.out]; exact hlt
        obtain ⟨y, hy⟩ : ∃ y, y = ks.getD j 0 := ⟨_, rfl⟩
        have c0 := hR.cell (mixC_at x ks j hjl)
        rw [← hy] at c0
        have cf := hR.free j
        have hxx := xx y x
        have b4 : (0 : Int) ≤ j ∧ (j : Int) < 64 := by omega
        have HY := Aside0.mk hy
        have HJL := Aside0.mk hjl
        clear hE hR hy hjl
        go_wp2
        go_roundw
        case rel =>
          refine ⟨j + 1, by omega, by simp, Below.setCell HE.out (p := ⟨B, j, none⟩) (by show w.heap.size ≤ B; rw [HBD.out]; exact Nat.le_refl _) _, ?_⟩
          have h := HRr.out.set j (.int .u8 (n8 (y ^^^ x)))
          rw [HY.out, mixC_set x ks j HJL.out] at h
          rw [HY.out]; exact h
        case measure => simp [intOf]; omega
      · obtain rfl : j = 64 := by omega
        rw [mixL_full x ks 64 (by rw [HKL.out]; omega)] at hR
        have HRx := Aside0.mk hR
        clear hE hR HRr
        go_wp2
        go_ret
        exact ⟨B, rfl, by rw [HBD.out]; exact Nat.le_refl _, HE.out, by rw [← HKS.out]; exact HRx.out⟩
-- refCode

theorem Ob.of_row {B b : Nat} {w : World} {xs : List UInt8} (h : Row w b (xs.map cell) 5) (hB : B ≤ b) (hl : xs.length ≤ 9223372036854775807) : Ob B w (.slice (some ⟨b, 0, none⟩) xs.length xs.length) xs := by
  refine ⟨by simp [nums, ints], .inr ⟨b, xs.length, (xs.map cell).toArray, by rw [ints_length], hB, h, by rw [ints_length]; exact Nat.le_refl _, hl, by simp, ?_⟩⟩
  rw [nums_cells, ints_length, Nat.mul_one]
  show List.take xs.length (xs.map cell) = _
  exact List.take_of_length_le (by simp)
theorem calls_world {P : Program} {f : FuncId} {args : Array Value} {w : World} {Q : Ending → World → Prop} (F : World → Prop) (h : F w) (k : ∀ w, F w → Calls P f args w Q) : Calls P f args w Q := k w h
/-- append onto a full row of the call's own: new memory -/
theorem run_onto {B b : Nat} {W : World} (ty : TypeId) {q ys : List UInt8} {ad : Addr} {c : Nat} (hR : Row W b (q.map cell) 5) (hBb : B ≤ b) (hq : q.length = 64) (hy : Bs W (some ad) ys.length ys) (hpos : 0 < ys.length) (hl : ys.length ≤ 100000000000000) (hB : B ≤ W.heap.size) :
    ∃ v1 w1, (Builtin.append_ #[24, 24] ty #[.slice (some ⟨b, 0, none⟩) 64 64, .slice (some ad) ys.length c]).run Tryd.prog W = .ok v1 w1 ∧ Ob B w1 v1 (q ++ ys) ∧ Ext W w1 := by
  obtain ⟨i, hi, hz, hsz, hby⟩ := i5
  have hO : Ob B W (.slice (some ⟨b, 0, none⟩) 64 64) q := by have := Ob.of_row hR hBb (by omega); rwa [hq] at this
  obtain ⟨v1, w1, hr, hO1, _⟩ := run_app2 ty (c := c) hO hy hB (by omega)
  refine ⟨v1, w1, hr, hO1, ?_⟩
  have hnl : (nums .u8 (ints ys)).length = ys.length := by simp [nums, ints]
  have hr2 := run_append_grow (P := Tryd.prog) W 24 ty 5 i (.int .u8 0) Tryd.underlying24 hi hz ⟨b, 0, none⟩ 64 64 (q.map cell) (by rw [hsz, List.length_map, hq]) (fun j u hu => by rw [addr_add]; exact hR.cell (by simpa using hu)) ad ys.length c (nums .u8 (ints ys)) (by rw [hnl, hsz, Nat.mul_one]) (by rw [nums_cells]; exact cells_of_bs hy) (by omega) (by omega) (growslice_fits (by omega) (by rw [hby]; omega))
  rw [hr2] at hr
  injection hr with _ hw
  subst hw
  exact ((Ext.refl W).drew).alloc _
set_option maxHeartbeats 1000000 in
set_option maxRecDepth 100000 in
theorem refCode_calls (w : World) (A : Option Addr) (c : Nat) (xs : List UInt8) (A1 : Option Addr) (c1 : Nat) (ys : List UInt8) (hR : RTab w) (hx : Bs w A xs.length xs) (hc : xs.length ≤ c) (hl : xs.length ≤ 10000000000000) (hy : Bs w A1 ys.length ys) (hc1 : ys.length ≤ c1) (hl1 : ys.length ≤ 1000000000000) :
    Calls Tryd.prog 37 #[.slice A xs.length c, .slice A1 ys.length c1] w (fun e w' => e = .returned (hashV (Spec.code xs ys)) ∧ Ext w w') := by
  obtain ⟨R, hRdef⟩ : ∃ R, R = w.heap.size := ⟨_, rfl⟩
  have HRD := Aside0.mk hRdef
  have HR := Aside0.mk hR
  have HX := Aside0.mk hx
  have HY := Aside0.mk hy
  clear hR hx hy
  go_enter Tryd.func37, Tryd.ntmps37
  go_wp2_with fail
  refine calls_world (fun wa => Ext w wa ∧ Row wa R (z8 32) 28) ⟨(Ext.refl w).alloc _, by rw [hRdef]; exact Row.alloc _ _ _⟩ ?_
  rintro wa ⟨hE0, hA0⟩
  refine (refBlock_calls wa A c xs 0x36 (HR.out.ext hE0) (HX.out.ext hE0) hc hl).mono ?_
  rintro e w1 ⟨b, rfl, hb, hE1, hRb⟩
  have HE0 := Aside0.mk hE0
  have HA0 := Aside0.mk hA0
  have HE1 := Aside0.mk hE1
  have HRB := Aside0.mk hRb
  rw [← hRdef]
  clear hE0 hA0 hE1 hRb hRdef
  go_wp2_with (with_reducible refine gate_dst (N := 11) rfl ?_; refine Aside0.out ?_)
  refine Aside0.mk ?_
  have hlk : (Spec.xorL 0x36 (Spec.key xs)).length = 64 := by simp [Spec.xorL_length, Spec.key_length]
  have HOb := Ob.of_row HRB.out hb (by omega)
  rw [hlk] at HOb
  refine ob_row (w := wa) rfl _ _ (.slice (some ⟨b, 0, none⟩) 64 64) (Spec.xorL 0x36 (Spec.key xs)) ys A1 c1 rfl rfl rfl HOb (HY.out.ext (HE0.out.trans HE1.out)) HE1.out (by omega) ?_
  intro v1 w2 hO1 hE2
  obtain ⟨A2, c2, rfl, hc2, hb2⟩ := hO1.open
  obtain ⟨m1, hm1⟩ : ∃ m1, m1 = Spec.xorL 0x36 (Spec.key xs) ++ ys := ⟨_, rfl⟩
  rw [← hm1] at hc2 hb2 ⊢
  have hml : m1.length ≤ 10000000000000 := by rw [hm1, List.length_append, hlk]; omega
  have HM1 := Aside0.mk hm1
  have HE2 := Aside0.mk (HE0.out.trans hE2)
  have HB2 := Aside0.mk hb2
  have HA2 := Aside0.mk (HA0.out.ext hE2)
  clear HOb hO1 hE2 hb2 hm1 hlk
  go_wp2_with fail
  refine (refSum_calls w2 A2 c2 m1 (HR.out.ext HE2.out) HB2.out hc2 hml).mono ?_
  rintro e w3 ⟨rfl, hE3⟩
  obtain ⟨dg, hdg⟩ : ∃ dg, dg = Spec.digest m1 := ⟨_, rfl⟩
  rw [← hdg]
  have HDG := Aside0.mk hdg
  have HDL := Aside0.mk (show dg.length = 32 by rw [hdg]; exact Spec.digest_length _)
  have hEa := HE2.out.trans hE3
  have hAa := HA2.out.ext hE3
  clear hE3 hdg
  go_wp2_with (with_reducible change wpList _ _ _ (Oper.mk _ (Op.store 28 _ _) _ _ _ _ :: _) _ _; refine Aside0.out ?_)
  refine Aside0.mk ?_
  refine wpList_store_row rfl 28 _ _ rfl w3.heap.size (dg.map cell).toArray rfl (by simp only [go_sem, hashV, Act.eval, Act.put]; rfl) 28 _ (heap_alloc_new _ _) (by rw [show (dg.map cell).toArray.size = 32 by simp [HDL.out]]; kernel_rfl) (by simp [HDL.out]) (oneCells _) ?_
  obtain ⟨D, hD⟩ : ∃ D, D = w3.heap.size := ⟨_, rfl⟩
  have hEr : Ext w3 ((w3.alloc (.cells (z8 32).toArray 28)).setRow w3.heap.size (dg.map cell).toArray) := below_alloc_setRow _ _ _
  refine wpList_world (fun w4 => Ext w w4 ∧ Row w4 R (z8 32) 28 ∧ Row w4 D (dg.map cell) 28) ⟨hEa.trans hEr, hAa.ext hEr, by rw [hD]; exact alloc_setRow _ _ _ _⟩ ?_
  rintro w4 ⟨hE4, hA4, hD4⟩
  rw [← hD]
  have HE3 := Aside0.mk hE4
  have HA3 := Aside0.mk hA4
  have HD3 := Aside0.mk (show Bs w4 (some ⟨D, 0, none⟩) dg.length dg from Bs.row hD4 rfl (by rw [HDL.out]; omega))
  obtain ⟨B0, hB0⟩ : ∃ B0, B0 = w4.heap.size := ⟨_, rfl⟩
  have HB0 := Aside0.mk hB0
  clear hE4 hA4 hD4 hEa hAa hEr hD hB0
  go_wp2_with fail
  refine ext_region 5 [(0, 14), (1, 15), (2, 16), (3, 17), (4, 7)] [0, 1, 2, 3, 4] (fun i w v => match i with | 0 => v = .slice A xs.length c | 1 => ∃ b, v = .slice (some ⟨b, 0, none⟩) 64 64 ∧ w.heap.size ≤ w.heap.size ∧ B0 ≤ b ∧ Row w b ((Spec.xorL 0x5c (Spec.key xs)).map cell) 5 | 2 => v = .slice (some ⟨D, 0, none⟩) 32 32 | 3 => Ob B0 w v (Spec.xorL 0x5c (Spec.key xs) ++ dg) | 4 => Ob B0 w v (Spec.xorL 0x5c (Spec.key xs) ++ dg) | _ => True) (by kernel_rfl) (by kernel_rfl) (by rfl) rfl ?mono3 ?steps3 ?fin3
  case mono3 =>
    intro i w w' v h hE
    match i with
    | 0 => exact h
    | 1 => exact h.elim fun b h => ⟨b, h.1, Nat.le_refl _, h.2.2.1, h.2.2.2.ext hE⟩
    | 2 => exact h
    | 3 => exact h.ext hE
    | 4 => exact h.ext hE
    | _ + 5 => trivial
  case steps3 =>
    refine stepE_cons ⟨_, rfl, fun a w hE hH => ?_⟩ ?_
    ·
      have e0 : a.tmps[0]? = some (.slice A xs.length c) := hH.old 0 rfl
      exact Or.inl ⟨rfl, goodE_move _ rfl (eval_of e0) rfl⟩
    refine stepE_cons ⟨_, rfl, fun a w hE hH => ?_⟩ ?_
    ·
      obtain ⟨v14, e14, g14⟩ := hH.dep 0 14 rfl (by kernel_rfl)
      have q14 : v14 = .slice A xs.length c := g14
      subst q14
      refine Or.inl ⟨(rfl), goodE_call rfl #[.slice A xs.length c, .int .u8 92] (by simp [Act.eval, e14]) _ Tryd.func44 (by kernel_rfl) (by kernel_rfl) ?_⟩
      refine (refBlock_calls w A c xs 0x5c (HR.out.ext (HE3.out.trans ((Ext.to_drew _).trans hE))) (HX.out.ext (HE3.out.trans ((Ext.to_drew _).trans hE))) hc hl).mono ?_
      rintro e w' ⟨b, rfl, hb, hEb, hRb⟩
      exact ⟨_, rfl, hEb, b, rfl, Nat.le_refl _, by have := HB0.out; have := (((Ext.to_drew _).trans hE)).size; omega, hRb⟩
    refine stepE_cons ⟨_, rfl, fun a w hE hH => ?_⟩ ?_
    ·
      have e6 : a.tmps[6]? = some (.pointer (some ⟨D, 0, none⟩)) := hH.old 6 rfl
      exact Or.inl ⟨(rfl), goodE_val (.slice (some ⟨D, 0, none⟩) 32 32) (by simp [execOp, Act.eval, e6, go_sem, Tryd.underlying28]) rfl⟩
    refine stepE_cons ⟨_, rfl, fun a w hE hH => ?_⟩ ?_
    ·
      obtain ⟨v15, e15, g15⟩ := hH.dep 1 15 rfl (by kernel_rfl)
      obtain ⟨v16, e16, g16⟩ := hH.dep 2 16 rfl (by kernel_rfl)
      have q16 : v16 = .slice (some ⟨D, 0, none⟩) 32 32 := g16
      subst q16
      obtain ⟨b, rfl, _, hBb, hRb⟩ := g15
      obtain ⟨v1, w1, hr, hO, hE1⟩ := run_onto 24 hRb hBb (by simp [Spec.xorL_length, Spec.key_length]) (show Bs w (some ⟨D, 0, none⟩) dg.length dg from (HD3.out.ext ((Ext.to_drew _).trans hE))) (c := 32) (by have := HDL.out; omega) (by have := HDL.out; omega) (by have := HB0.out; have := (((Ext.to_drew _).trans hE)).size; omega)
      rw [HDL.out] at hr
      exact Or.inl ⟨(rfl), goodE_new v1 w1 (exec_append (s := .tmp 15) (x := .tmp 16) (t := 24) (u := 24) rfl (by rw [eval_of e15, eval_of e16]; exact hr)) hE1 hO⟩
    refine stepE_cons ⟨_, rfl, fun a w hE hH => ?_⟩ ?_
    ·
      obtain ⟨v17, e17, g17⟩ := hH.dep 3 17 rfl (by kernel_rfl)
      exact Or.inl ⟨rfl, goodE_assign v17 rfl (eval_of e17) g17⟩
    exact stepE_nil
  rintro vals wz hE hV
  have k7 : Ob B0 wz (vals 4) (Spec.xorL 0x5c (Spec.key xs) ++ dg) := hV 4 (by simp) rfl
  simp only [List.map_cons, List.map_nil, putAll, Act.put, List.setIfInBounds_toArray, List.set_cons_zero, List.set_cons_succ]
  obtain ⟨A7, c7, e7, hc7, hb7⟩ := k7.open
  obtain ⟨m2, hm2⟩ : ∃ m2, m2 = Spec.xorL 0x5c (Spec.key xs) ++ dg := ⟨_, rfl⟩
  rw [← hm2] at e7 hc7 hb7
  have hml2 : m2.length = 96 := by rw [hm2, List.length_append, HDL.out]; simp [Spec.xorL_length, Spec.key_length]
  have hcode : Spec.digest m2 = Spec.code xs ys := by rw [hm2, HDG.out, HM1.out, Spec.code]
  have HCODE := Aside0.mk hcode
  have HML2 := Aside0.mk hml2
  have HE7 := Aside0.mk (HE3.out.trans ((Ext.to_drew _).trans hE))
  have HA7 := Aside0.mk (HA3.out.ext ((Ext.to_drew _).trans hE))
  have HB7 := Aside0.mk hb7
  rw [e7]
  clear hE hV k7 e7 hb7 hm2 hcode hml2
  go_wp2_with fail
  refine (refSum_calls wz A7 c7 m2 (HR.out.ext HE7.out) HB7.out hc7 (by have := HML2.out; omega)).mono ?_
  rintro e w8 ⟨rfl, hE8⟩
  have HE8 := Aside0.mk (HE7.out.trans hE8)
  have HA8 := Aside0.mk (HA7.out.ext hE8)
  rw [HCODE.out]
  have HCZ := Aside0.mk (show ((Spec.code xs ys).map cell).toArray.size = 32 by simp [Spec.code_length])
  clear hE8
  go_wp2_with (with_reducible change wpList _ _ _ (Oper.mk _ (Op.store 28 _ _) _ _ _ _ :: _) _ _; refine Aside0.out ?_)
  refine Aside0.mk ?_
  refine wpList_store_row rfl 28 _ _ rfl R ((Spec.code xs ys).map cell).toArray rfl (by simp only [go_sem, hashV, Act.eval, Act.put]; rfl) 28 _ HA8.out (by rw [HCZ.out]; kernel_rfl) (by rw [HCZ.out]; rfl) (oneCells _) ?_
  go_wp2
  (try simp only [Exit.inBlock, Exit.then])
  refine bodyPost_ret (results_cell_row rfl _ _ R 28 ((Spec.code xs ys).map cell).toArray (0, 0) _ rfl (setRow_heap _ _ _ _ _ _ HA8.out) Tryd.underlying28 rfl (by rw [HCZ.out]; kernel_rfl)) rfl ?_
  exact ⟨rfl, Below.setRow HE8.out (by rw [HRD.out]; exact Nat.le_refl _) _⟩
end Go.Proofs.YtnkhhnfmijljbaaDoor
set_option linter.unusedVariables false
set_option linter.unusedSimpArgs false
namespace Go.Proofs.YtnkhhnfmijljbaaDoor
open Go.RowKit Go.Proofs.YtnkhhnfmijljbaaDoorW.PrintWords Go.Proofs.YtnkhhnfmijljbaaDoorW.PrintLast Go.Proofs.YtnkhhnfmijljbaaDoorW.PrintMore
open Extern.Stop (cell)

theorem Bs.take' {w : World} {A : Option Addr} {xs : List UInt8} (h : Bs w A xs.length xs) (m : Nat) : Bs w A (xs.take m).length (xs.take m) := by
  by_cases hm : m ≤ xs.length
  · exact h.take m hm
  · rw [List.take_of_length_le (by omega)]; exact h
def ptrV (live : Nat → Bool) (gs : Nat → Nat) (i : Nat) : Value := if live i then .pointer (some ⟨gs i, 0, none⟩) else .pointer none
def tabL (live : Nat → Bool) (gs : Nat → Nat) (S B : Nat → Pt) : List Value := [ptrV live gs 0, ptrV live gs 1, ptrV live gs 2, pv (S 0), pv (B 0), pv (S 1), pv (B 1), pv (S 2), pv (B 2)]
section
variable {live : Nat → Bool} {gs : Nat → Nat} {S B : Nat → Pt}
theorem tabL_p (i : Nat) (h : i < 3) : (tabL live gs S B)[i]? = some (ptrV live gs i) := by
  match i, h with
  | 0, _ | 1, _ | 2, _ => rfl
theorem tabL_s (i : Nat) (h : i < 3) : (tabL live gs S B)[3 + i * 2]? = some (pv (S i)) := by
  match i, h with
  | 0, _ | 1, _ | 2, _ => rfl
theorem tabL_b (i : Nat) (h : i < 3) : (tabL live gs S B)[3 + i * 2 + 1]? = some (pv (B i)) := by
  match i, h with
  | 0, _ | 1, _ | 2, _ => rfl
theorem tabL_setP (i g : Nat) (h : i < 3) : (tabL live gs S B).set i (.pointer (some ⟨g, 0, none⟩)) = tabL (upd live i true) (upd gs i g) S B := by
  match i, h with
  | 0, _ | 1, _ | 2, _ => rfl
theorem tabL_setR (i : Nat) (h : i < 3) (p q : Pt) : ((tabL live gs S B).set (3 + i * 2) (pv p)).set (3 + i * 2 + 1) (pv q) = tabL live gs (upd S i p) (upd B i q) := by
  match i, h with
  | 0, _ | 1, _ | 2, _ => rfl
theorem tabL_setB (i : Nat) (h : i < 3) (q : Pt) : (tabL live gs S B).set (3 + i * 2 + 1) (pv q) = tabL live gs S (upd B i q) := by
  match i, h with
  | 0, _ | 1, _ | 2, _ => rfl
end
/-- a slice that reads as these bytes, in none of the blocks that are written -/
def OkP (w : World) (T : Nat) (live : Nat → Bool) (ss : Nat → Nat) (p : Pt) : Prop :=
  p.2.2.length ≤ p.2.1 ∧ Bs w p.1 p.2.2.length p.2.2 ∧ ∀ ad, p.1 = some ad → 0 < p.2.2.length → ad.block ≠ T ∧ ∀ j, j < 3 → live j = true → ad.block ≠ ss j
structure T3 (w : World) (T : Nat) (live : Nat → Bool) (gs ss : Nat → Nat) (ks kb : Nat → List UInt8) (S B : Nat → Pt) (X : Pt) : Prop where
  row : Row w T (tabL live gs S B) 62
  ky : ∀ i, i < 3 → live i = true → Ky w (gs i) (ss i) (ks i) (kb i)
  okS : ∀ i, i < 3 → OkP w T live ss (S i)
  okB : ∀ i, i < 3 → OkP w T live ss (B i)
  okX : OkP w T live ss X
  nT : ∀ i, i < 3 → live i = true → T < gs i ∧ T < ss i
  nG : ∀ i j, i < 3 → j < 3 → live i = true → live j = true → i ≠ j → ss i ≠ ss j ∧ ss i ≠ gs j
def AvP (g : Nat) (p : Pt) : Prop := ∀ ad, p.1 = some ad → 0 < p.2.2.length → ad.block ≠ g
/-- nothing of it lies in block g -/
structure Av (g T : Nat) (live : Nat → Bool) (gs ss : Nat → Nat) (S B : Nat → Pt) (X : Pt) : Prop where
  nT : T ≠ g
  nK : ∀ i, i < 3 → live i = true → gs i ≠ g ∧ ss i ≠ g
  nS : ∀ i, i < 3 → AvP g (S i)
  nB : ∀ i, i < 3 → AvP g (B i)
  nX : AvP g X
section
variable {T : Nat} {w0 w w' : World} {live : Nat → Bool} {gs ss : Nat → Nat} {ks kb : Nat → List UInt8} {S B : Nat → Pt} {X : Pt}
theorem OkP.ext {p : Pt} (h : OkP w T live ss p) (hE : Ext w w') : OkP w' T live ss p := ⟨h.1, h.2.1.ext hE, h.2.2⟩
theorem OkP.only {p : Pt} {g : Nat} (h : OkP w T live ss p) (hO : Only w g w') (hg : AvP g p) : OkP w' T live ss p := ⟨h.1, h.2.1.only hO hg, h.2.2⟩
theorem OkP.lt {p : Pt} (h : OkP w T live ss p) (ad : Addr) (ha : p.1 = some ad) (hn : 0 < p.2.2.length) : ad.block < w.heap.size := fr_lt h.2.1 ad ha hn
theorem OkP.sta {p : Pt} (h : OkP w T live ss p) {i : Nat} (hi : i < 3) (hl : live i = true) : AvP (ss i) p := fun ad ha hn => (h.2.2 ad ha hn).2 i hi hl
theorem OkP.tab {p : Pt} (h : OkP w T live ss p) : AvP T p := fun ad ha hn => (h.2.2 ad ha hn).1
theorem OkP.new {p : Pt} (h : OkP w T live ss p) {g : Nat} (hg : w.heap.size ≤ g) : AvP g p := fun ad ha hn => by have := h.lt ad ha hn; omega
/-- bytes in new memory -/
theorem OkP.made {A : Option Addr} {c : Nat} {xs : List UInt8} {n : Nat} (hc : xs.length ≤ c) (hb : Bs w A xs.length xs) (hA : ∀ ad, A = some ad → n ≤ ad.block) (hT : T < n) (hs : ∀ i, i < 3 → live i = true → ss i < n) : OkP w T live ss (A, c, xs) :=
  ⟨hc, hb, fun ad ha hn => ⟨by have := hA ad ha; omega, fun j hj hl => by have := hA ad ha; have := hs j hj hl; omega⟩⟩
theorem OkP.none : OkP w T live ss (none, 0, []) := ⟨Nat.le_refl _, Bs.none_ _ _, fun ad ha => by cases ha⟩
theorem AvP.none {g : Nat} : AvP g (none, 0, []) := fun ad ha => by cases ha
theorem Ky.lt {g s : Nat} {sec bs : List UInt8} (h : Ky w g s sec bs) : g < w.heap.size ∧ s < w.heap.size := ⟨h.row.lt, h.st.lt⟩
theorem T3.ssLt (h : T3 w T live gs ss ks kb S B X) (i : Nat) (hi : i < 3) (hl : live i = true) : ss i < w.heap.size := (h.ky i hi hl).lt.2
theorem T3.ext (h : T3 w T live gs ss ks kb S B X) (hE : Ext w w') : T3 w' T live gs ss ks kb S B X :=
  ⟨h.row.ext hE, fun i hi hl => (h.ky i hi hl).ext hE, fun i hi => (h.okS i hi).ext hE, fun i hi => (h.okB i hi).ext hE, h.okX.ext hE, h.nT, h.nG⟩
theorem T3.only {g : Nat} (h : T3 w T live gs ss ks kb S B X) (ha : Av g T live gs ss S B X) (hO : Only w g w') : T3 w' T live gs ss ks kb S B X :=
  ⟨hO.row h.row ha.nT, fun i hi hl => (h.ky i hi hl).only hO (ha.nK i hi hl).1 (ha.nK i hi hl).2, fun i hi => (h.okS i hi).only hO (ha.nS i hi), fun i hi => (h.okB i hi).only hO (ha.nB i hi), h.okX.only hO ha.nX, h.nT, h.nG⟩
theorem T3.av {g : Nat} (h : T3 w T live gs ss ks kb S B X) (hg : w.heap.size ≤ g) : Av g T live gs ss S B X := by
  have hT := h.row.lt
  exact ⟨by omega, fun i hi hl => by have := (h.ky i hi hl).lt; exact ⟨by omega, by omega⟩, fun i hi => (h.okS i hi).new hg, fun i hi => (h.okB i hi).new hg, h.okX.new hg⟩
theorem T3.putX {X' : Pt} (h : T3 w T live gs ss ks kb S B X) (hx : OkP w T live ss X') : T3 w T live gs ss ks kb S B X' := ⟨h.row, h.ky, h.okS, h.okB, hx, h.nT, h.nG⟩
theorem Av.setP {g i g' s' : Nat} (h : Av g T live gs ss S B X) (hg : g' ≠ g) (hs : s' ≠ g) : Av g T (upd live i true) (upd gs i g') (upd ss i s') S B X :=
  ⟨h.nT, fun j hj hl => by
    by_cases hji : j = i
    · subst hji; rw [upd_self, upd_self]; exact ⟨hg, hs⟩
    · rw [upd_ne _ _ _ _ hji] at hl; rw [upd_ne _ _ _ _ hji, upd_ne _ _ _ _ hji]; exact h.nK j hj hl, h.nS, h.nB, h.nX⟩
theorem Av.setR {g i : Nat} {p q : Pt} (h : Av g T live gs ss S B X) (hp : AvP g p) (hq : AvP g q) : Av g T live gs ss (upd S i p) (upd B i q) X :=
  ⟨h.nT, h.nK, fun j hj => by
    by_cases hji : j = i
    · subst hji; rw [upd_self]; exact hp
    · rw [upd_ne _ _ _ _ hji]; exact h.nS j hj, fun j hj => by
    by_cases hji : j = i
    · subst hji; rw [upd_self]; exact hq
    · rw [upd_ne _ _ _ _ hji]; exact h.nB j hj, h.nX⟩
theorem Av.setB {g i : Nat} {q : Pt} (h : Av g T live gs ss S B X) (hq : AvP g q) : Av g T live gs ss S (upd B i q) X :=
  ⟨h.nT, h.nK, h.nS, fun j hj => by
    by_cases hji : j = i
    · subst hji; rw [upd_self]; exact hq
    · rw [upd_ne _ _ _ _ hji]; exact h.nB j hj, h.nX⟩
theorem T3.write {i : Nat} {x : List UInt8} (h : T3 w T live gs ss ks kb S B X) (hi : i < 3) (hl : live i = true) (hO : Only w (ss i) w') (hK : Ky w' (gs i) (ss i) (ks i) x) : T3 w' T live gs ss ks (upd kb i x) S B X := by
  refine ⟨hO.row h.row (by have := (h.nT i hi hl).2; omega), fun j hj hlj => ?_, fun j hj => (h.okS j hj).only hO ((h.okS j hj).sta hi hl), fun j hj => (h.okB j hj).only hO ((h.okB j hj).sta hi hl), h.okX.only hO (h.okX.sta hi hl), h.nT, h.nG⟩
  by_cases hji : j = i
  · subst hji; rw [upd_self]; exact hK
  · rw [upd_ne _ _ _ _ hji]
    have h1 := h.nG i j hi hj hl hlj (fun e => hji e.symm)
    exact (h.ky j hj hlj).only hO (fun e => h1.2 e.symm) (fun e => h1.1 e.symm)
/-- p[i] = a new code -/
theorem T3.setP {i g s : Nat} {sec bs : List UInt8} (h0 : T3 w0 T live gs ss ks kb S B X) (hE : Ext w0 w) (hi : i < 3) (hg : w0.heap.size ≤ g) (hs : w0.heap.size ≤ s) (hK : Ky w g s sec bs) :
    T3 (w.setCell ⟨T, i, none⟩ (.pointer (some ⟨g, 0, none⟩))) T (upd live i true) (upd gs i g) (upd ss i s) (upd ks i sec) (upd kb i bs) S B X := by
  have h := h0.ext hE
  have hT := h0.row.lt
  have hO : Only w T (w.setCell ⟨T, i, none⟩ (.pointer (some ⟨g, 0, none⟩))) := (Only.refl w T).set i _
  have ok : ∀ p, OkP w0 T live ss p → OkP (w.setCell ⟨T, i, none⟩ (.pointer (some ⟨g, 0, none⟩))) T (upd live i true) (upd ss i s) p := fun p hp => by
    refine ⟨hp.1, (hp.2.1.ext hE).only hO hp.tab, fun ad ha hn => ⟨(hp.2.2 ad ha hn).1, fun j hj hl => ?_⟩⟩
    by_cases hji : j = i
    · subst hji; rw [upd_self]; have := hp.lt ad ha hn; omega
    · rw [upd_ne _ _ _ _ hji] at hl ⊢; exact (hp.2.2 ad ha hn).2 j hj hl
  refine ⟨?_, fun j hj hl => ?_, fun j hj => ok _ (h0.okS j hj), fun j hj => ok _ (h0.okB j hj), ok _ h0.okX, fun j hj hl => ?_, fun j k hj hk hlj hlk hne => ?_⟩
  · rw [← tabL_setP i g hi]; exact h.row.set i _
  · by_cases hji : j = i
    · subst hji; rw [upd_self, upd_self, upd_self, upd_self]; exact hK.only hO (by omega) (by omega)
    · rw [upd_ne _ _ _ _ hji] at hl
      rw [upd_ne _ _ _ _ hji, upd_ne _ _ _ _ hji, upd_ne _ _ _ _ hji, upd_ne _ _ _ _ hji]
      have := h.nT j hj hl
      exact (h.ky j hj hl).only hO (by omega) (by omega)
  · by_cases hji : j = i
    · subst hji; rw [upd_self, upd_self]; exact ⟨by omega, by omega⟩
    · rw [upd_ne _ _ _ _ hji] at hl; rw [upd_ne _ _ _ _ hji, upd_ne _ _ _ _ hji]; exact h.nT j hj hl
  · by_cases hji : j = i
    · subst hji
      have hkj : k ≠ j := fun e => hne e.symm
      rw [upd_ne _ _ _ _ hkj] at hlk
      rw [upd_self, upd_ne _ _ _ _ hkj, upd_ne _ _ _ _ hkj]; have := (h0.ky k hk hlk).lt; exact ⟨by omega, by omega⟩
    · rw [upd_ne _ _ _ _ hji] at hlj
      rw [upd_ne ss _ _ _ hji]
      by_cases hki : k = i
      · subst hki; rw [upd_self, upd_self]; have := (h0.ky j hj hlj).lt; exact ⟨by omega, by omega⟩
      · rw [upd_ne _ _ _ _ hki] at hlk; rw [upd_ne _ _ _ _ hki, upd_ne _ _ _ _ hki]; exact h.nG j k hj hk hlj hlk hne
/-- r[i] = these -/
theorem T3.setR {i : Nat} {p q : Pt} (h : T3 w T live gs ss ks kb S B X) (hi : i < 3) (hp : OkP w T live ss p) (hq : OkP w T live ss q) :
    T3 ((w.setCell ⟨T, 3 + i * 2, none⟩ (pv p)).setCell ⟨T, 3 + i * 2 + 1, none⟩ (pv q)) T live gs ss ks kb (upd S i p) (upd B i q) X := by
  have hO : Only w T ((w.setCell ⟨T, 3 + i * 2, none⟩ (pv p)).setCell ⟨T, 3 + i * 2 + 1, none⟩ (pv q)) := ((Only.refl w T).set _ _).set _ _
  have ok : ∀ p, OkP w T live ss p → OkP _ T live ss p := fun p hp => hp.only hO hp.tab
  refine ⟨?_, fun j hj hl => ?_, fun j hj => ?_, fun j hj => ?_, ok _ h.okX, h.nT, h.nG⟩
  · rw [← tabL_setR i hi p q]; exact (h.row.set _ _).set _ _
  · have := h.nT j hj hl
    exact (h.ky j hj hl).only hO (by omega) (by omega)
  · by_cases hji : j = i
    · subst hji; rw [upd_self]; exact ok _ hp
    · rw [upd_ne _ _ _ _ hji]; exact ok _ (h.okS j hj)
  · by_cases hji : j = i
    · subst hji; rw [upd_self]; exact ok _ hq
    · rw [upd_ne _ _ _ _ hji]; exact ok _ (h.okB j hj)
/-- r[i].Bytes = these -/
theorem T3.setB {i : Nat} {q : Pt} (h : T3 w T live gs ss ks kb S B X) (hi : i < 3) (hq : OkP w T live ss q) :
    T3 (w.setCell ⟨T, 3 + i * 2 + 1, none⟩ (pv q)) T live gs ss ks kb S (upd B i q) X := by
  have hO : Only w T (w.setCell ⟨T, 3 + i * 2 + 1, none⟩ (pv q)) := (Only.refl w T).set _ _
  have ok : ∀ p, OkP w T live ss p → OkP _ T live ss p := fun p hp => hp.only hO hp.tab
  refine ⟨?_, fun j hj hl => ?_, fun j hj => ok _ (h.okS j hj), fun j hj => ?_, ok _ h.okX, h.nT, h.nG⟩
  · rw [← tabL_setB i hi q]; exact h.row.set _ _
  · have := h.nT j hj hl
    exact (h.ky j hj hl).only hO (by omega) (by omega)
  · by_cases hji : j = i
    · subst hji; rw [upd_self]; exact ok _ hq
    · rw [upd_ne _ _ _ _ hji]; exact ok _ (h.okB j hj)
end
/-- between Roomy and over: the table's state, the list with its marks in block g, all as it was below T -/
structure Mid (w wx : World) (T g c : Nat) (X : Pt) (live : Nat → Bool) (gs ss : Nat → Nat) (ks kb : Nat → List UInt8) (S B : Nat → Pt) (L : Nat) : Prop where
  t : T3 wx T live gs ss ks kb S B X
  av : Av g T live gs ss S B X
  rm : Rm wx g c X.2.2
  be : Below T w wx
  eq : ∀ i, i < 3 → live i = true → ks i = (S i).2.2 ∧ kb i = (B i).2.2
  len : ∀ i, i < 3 → (S i).2.2.length ≤ 400 ∧ (B i).2.2.length ≤ L
section
variable {w wx wy : World} {T g c : Nat} {X : Pt} {live : Nat → Bool} {gs ss : Nat → Nat} {ks kb : Nat → List UInt8} {S B : Nat → Pt} {L : Nat}
theorem Mid.ext (h : Mid w wx T g c X live gs ss ks kb S B L) (hE : Ext wx wy) : Mid w wy T g c X live gs ss ks kb S B L :=
  ⟨h.t.ext hE, h.av, h.rm.ext hE, Ext.below h.be (Nat.le_of_lt h.t.row.lt) hE, h.eq, h.len⟩
theorem Mid.more {L' : Nat} (h : Mid w wx T g c X live gs ss ks kb S B L) (hl : L ≤ L') : Mid w wx T g c X live gs ss ks kb S B L' :=
  ⟨h.t, h.av, h.rm, h.be, h.eq, fun i hi => ⟨(h.len i hi).1, Nat.le_trans (h.len i hi).2 hl⟩⟩
end
theorem wantedFree {o : Oper} (h : o.guard = none) (y : Nat → Option Bool) : Region.wanted o y = true := by
  unfold Region.wanted; rw [h]
theorem exec_store {w w1 : World} {ρ : Operand → Value} {o : Oper} {t : TypeId} {x y : Operand} (ho : o.op = .store t x y) (h : (Instr.storeAt t (ρ x) (ρ y)).run Tryd.prog w = .ok () w1) : (execOp ρ o).run Tryd.prog w = .ok .skip w1 := by
  unfold execOp; rw [ho]; simp [h]
theorem built59 (A : Option Addr) (n c : Nat) : Tryd.prog.built 59 [(0, .slice A n c)] = some #[.slice A n c, .slice none 0 0] := by kernel_rfl
theorem Ob.shape {B : Nat} {w : World} {v : Value} {al : List UInt8} (h : Ob B w v al) : ∃ A c, v = .slice A al.length c ∧ al.length ≤ c ∧ Bs w A al.length al ∧ ∀ ad, A = some ad → B ≤ ad.block := by
  obtain ⟨A, c, e, hc, hb⟩ := h.open
  refine ⟨A, c, e, hc, hb, fun ad ha => own_base h ad.block ?_⟩
  rw [e, ha]
  rfl
section
variable {live : Nat → Bool} {ks kb : Nat → List UInt8} {S B : Nat → Pt} {L : Nat}
theorem eq_put (h : ∀ i, i < 3 → live i = true → ks i = (S i).2.2 ∧ kb i = (B i).2.2) (i : Nat) (p q : Pt) : ∀ j, j < 3 → upd live i true j = true → upd ks i p.2.2 j = (upd S i p j).2.2 ∧ upd kb i q.2.2 j = (upd B i q j).2.2 := fun j hj hl => by
  by_cases hji : j = i
  · subst hji; rw [upd_self, upd_self, upd_self, upd_self]; exact ⟨rfl, rfl⟩
  · rw [upd_ne _ _ _ _ hji] at hl; rw [upd_ne _ _ _ _ hji, upd_ne _ _ _ _ hji, upd_ne _ _ _ _ hji, upd_ne _ _ _ _ hji]; exact h j hj hl
theorem eq_putB (h : ∀ i, i < 3 → live i = true → ks i = (S i).2.2 ∧ kb i = (B i).2.2) (i : Nat) (q : Pt) : ∀ j, j < 3 → live j = true → ks j = (S j).2.2 ∧ upd kb i q.2.2 j = (upd B i q j).2.2 := fun j hj hl => by
  by_cases hji : j = i
  · subst hji; rw [upd_self, upd_self]; exact ⟨(h j hj hl).1, rfl⟩
  · rw [upd_ne _ _ _ _ hji, upd_ne _ _ _ _ hji]; exact h j hj hl
theorem len_put (h : ∀ i, i < 3 → (S i).2.2.length ≤ 400 ∧ (B i).2.2.length ≤ L) (i : Nat) (p q : Pt) (hp : p.2.2.length ≤ 400) (hq : q.2.2.length ≤ L + 400) : ∀ j, j < 3 → (upd S i p j).2.2.length ≤ 400 ∧ (upd B i q j).2.2.length ≤ L + 400 := fun j hj => by
  have h1 := h j hj
  by_cases hji : j = i
  · subst hji; rw [upd_self, upd_self]; exact ⟨hp, hq⟩
  · rw [upd_ne _ _ _ _ hji, upd_ne _ _ _ _ hji]; exact ⟨h1.1, by omega⟩
theorem len_putB (h : ∀ i, i < 3 → (S i).2.2.length ≤ 400 ∧ (B i).2.2.length ≤ L) (i : Nat) (q : Pt) (hq : q.2.2.length ≤ L + 400) : ∀ j, j < 3 → (S j).2.2.length ≤ 400 ∧ (upd B i q j).2.2.length ≤ L + 400 := fun j hj => by
  have h1 := h j hj
  by_cases hji : j = i
  · subst hji; rw [upd_self]; exact ⟨h1.1, hq⟩
  · rw [upd_ne _ _ _ _ hji]; exact ⟨h1.1, by omega⟩
theorem live_put (i : Nat) : ∀ j, j < 3 → live j = true → upd live i true j = true := fun j hj hl => by
  by_cases hji : j = i
  · subst hji; rw [upd_self]
  · rw [upd_ne _ _ _ _ hji]; exact hl
end
def Sp3 (B : Nat) (q : List UInt8) (w w' : World) : Prop := Below B w w' ∧ ∀ u q', q'.length ≤ q.length → Ob B w u q' → Ob B w' u q'
/-- the step s writes behind the bytes q of a row of the region's own; every other step makes at most new memory -/
def Rel3 (s B : Nat) (q : List UInt8) (i : Nat) (w w' : World) : Prop := if i = s then Sp3 B q w w' else Ext w w'
section
variable {s B : Nat} {q : List UInt8} {i : Nat}
theorem rel3_ne (h : i ≠ s) : Rel3 s B q i = Ext := by funext w w'; simp [Rel3, h]
theorem rel3_self : Rel3 s B q s = Sp3 B q := by funext w w'; simp [Rel3]
theorem rel3_refl (i : Nat) (w : World) : Rel3 s B q i w w := by
  by_cases h : i = s
  · subst h; rw [rel3_self]; exact ⟨Below.refl _ _, fun _ _ _ h => h⟩
  · rw [rel3_ne h]; exact Ext.refl w
theorem rel3_ob {w w' : World} {u : Value} {q' : List UInt8} (hR : Rel3 s B q i w w') (hl : q'.length ≤ q.length) (h : Ob B w u q') : Ob B w' u q' := by
  by_cases hi : i = s
  · subst hi; rw [rel3_self] at hR; exact hR.2 u q' hl h
  · rw [rel3_ne hi] at hR; exact h.ext hR
theorem rel3_ext {w0 w w' : World} (hB : B = w0.heap.size) (h : Ext w0.drew w) (hR : Rel3 s B q i w w') : Ext w0.drew w' := by
  by_cases hi : i = s
  · subst hi; rw [rel3_self] at hR
    have := hR.1
    rw [hB] at this
    exact Below.trans h this
  · rw [rel3_ne hi] at hR; exact h.trans hR
end
theorem RTab.below3 {w w' : World} {B : Nat} (h : RTab w) (hb : Below B w w') (hB : 3 < B) : RTab w' := ⟨Nat.lt_of_lt_of_le h.1 hb.size, fun j v hv => by have h1 := h.2 j v hv; exact (hb.cell (p := ⟨3, 0 + j, none⟩) hB).trans h1⟩
theorem ptrV_live {live : Nat → Bool} {gs : Nat → Nat} {i : Nat} (h : live i = true) : ptrV live gs i = .pointer (some ⟨gs i, 0, none⟩) := by unfold ptrV; rw [h]; rfl
theorem i59 : ∃ i : TypeInfo, Tryd.prog.info? 59 = some i ∧ i.size = 2 := by
  have h : (Tryd.prog.info? 59).map (·.size) = some 2 := by kernel_rfl
  cases hi : Tryd.prog.info? 59 with
  | none => rw [hi] at h; cases h
  | some i => rw [hi] at h; exact ⟨i, rfl, by simpa using h⟩
theorem run_store2 {w : World} {T k : Nat} {L : List Value} {t : TypeId} (hR : Row w T L t) (hk : k + 1 < L.length) (p q : Pt) :
    (Instr.storeAt 59 (.pointer (some ⟨T, k, none⟩)) (.agg #[pv p, pv q])).run Tryd.prog w = .ok () ((w.setCell ⟨T, k, none⟩ (pv p)).setCell ⟨T, k + 1, none⟩ (pv q)) := by
  obtain ⟨i, hi, hs⟩ := i59
  obtain ⟨v0, h0⟩ : ∃ v, L[k]? = some v := ⟨_, List.getElem?_eq_getElem (by omega)⟩
  obtain ⟨v1, h1⟩ : ∃ v, L[k + 1]? = some v := ⟨_, List.getElem?_eq_getElem hk⟩
  have c0 := hR.cell h0
  have f0 := hR.free k
  have hR1 := hR.set k (pv p)
  have c1 := hR1.cell (show (L.set k (pv p))[k + 1]? = some v1 by rw [List.getElem?_set_ne (by omega)]; exact h1)
  have f1 := hR1.free (k + 1)

  simp only [pv] at c1 f1 ⊢
  simp [Instr.storeAt, Instr.sureAddr, storeVar, sizeOf, typeInfo, hi, hs, storeCells, Value.cells, go_sem, c0, f0, c1, f1]
end Go.Proofs.YtnkhhnfmijljbaaDoor
