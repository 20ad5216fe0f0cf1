/- Slices of bytes that are cut, copied, put into lists of slices. -/
import Derived.Test.YtnkhhnfmijljbaaDoorExw
set_option linter.unusedVariables false
set_option linter.unusedSimpArgs false
namespace Go.Proofs.YtnkhhnfmijljbaaDoor
open Go.RowKit Go.Proofs.YtnkhhnfmijljbaaDoorW.PrintWords Go.Proofs.YtnkhhnfmijljbaaDoorW.PrintLast Go.Proofs.YtnkhhnfmijljbaaDoorW.PrintMore
open Extern.Stop (cell)

/-- a slice that holds the bytes xs, none of which lies below block B -/
def Fr (B : Nat) (w : World) (v : Value) (xs : List UInt8) : Prop := ∃ A c, v = .slice A xs.length c ∧ xs.length ≤ c ∧ Bs w A xs.length xs ∧ ∀ ad, A = some ad → 0 < xs.length → B ≤ ad.block
section
variable {B : Nat} {w w' : World} {v : Value} {xs : List UInt8}
theorem Fr.ext (h : Fr B w v xs) (hE : Ext w w') : Fr B w' v xs := by
  obtain ⟨A, c, h1, h2, h3, h4⟩ := h
  exact ⟨A, c, h1, h2, h3.ext hE, h4⟩
theorem Fr.mono {B' : Nat} (h : Fr B w v xs) (hb : B' ≤ B) : Fr B' w v xs := by
  obtain ⟨A, c, h1, h2, h3, h4⟩ := h
  exact ⟨A, c, h1, h2, h3, fun ad h5 h6 => Nat.le_trans hb (h4 ad h5 h6)⟩
theorem Fr.only {g : Nat} (h : Fr B w v xs) (hO : Only w g w') (hg : g < B) : Fr B w' v xs := by
  obtain ⟨A, c, h1, h2, h3, h4⟩ := h
  exact ⟨A, c, h1, h2, h3.only hO (fun ad h5 h6 => by have := h4 ad h5 h6; omega), h4⟩
theorem Fr.of_bs {A : Option Addr} {n c : Nat} (h : Bs w A n xs) (hc : n ≤ c) : Fr 0 w (.slice A n c) xs := by
  have hl := h.len
  subst hl
  exact ⟨A, c, rfl, hc, h, fun _ _ _ => Nat.zero_le _⟩
/-- what was there when the call began -/
theorem Fr.below {a : World} (h : Fr B a v xs) (hb : Below a.heap.size a w) : Fr B w v xs := by
  obtain ⟨A, c, h1, h2, h3, h4⟩ := h
  exact ⟨A, c, h1, h2, h3.below hb, h4⟩
theorem fr_lt {A : Option Addr} {n : Nat} (h : Bs w A n xs) (ad : Addr) (ha : A = some ad) (hn : 0 < n) : ad.block < w.heap.size := by
  obtain ⟨ad', h1, h2⟩ := h.cells hn
  have hl := h.len
  rw [ha] at h1
  cases h1
  have h3 := Go.World.block_lt_of_cell? _ _ (h2 0 _ (by rw [List.getElem?_map, List.getElem?_eq_getElem (by omega : 0 < xs.length)]; rfl))
  rw [add_block] at h3
  exact h3
end
theorem below_ext {w a b : World} (h : Below w.heap.size w a) (k : Ext a b) : Below w.heap.size w b := Ext.below h h.size k
theorem i5 : ∃ i : TypeInfo, Tryd.prog.info? 5 = some i ∧ i.zero = some (.int .u8 0) ∧ i.size = 1 ∧ i.bytes = 1 := by
  obtain ⟨i, h, hz⟩ := Option.map_eq_some_iff.1 info5
  simp only [Prod.mk.injEq] at hz
  exact ⟨i, h, hz.1, hz.2.1, hz.2.2⟩
theorem info24 : (Tryd.prog.info? 24).map (fun i => (i.zero, i.size, i.bytes)) = some (some (.slice none 0 0), 1, 24) := by kernel_rfl
theorem i24 : ∃ i : TypeInfo, Tryd.prog.info? 24 = some i ∧ i.zero = some (.slice none 0 0) ∧ i.size = 1 ∧ i.bytes = 24 := by
  obtain ⟨i, h, hz⟩ := Option.map_eq_some_iff.1 info24
  simp only [Prod.mk.injEq] at hz
  exact ⟨i, h, hz.1, hz.2.1, hz.2.2⟩
/-- v[:j] -/
theorem fr_to {B : Nat} {w : World} {v : Value} {xs : List UInt8} (h : Fr B w v xs) (j : Int) (h0 : 0 ≤ j) (h1 : j ≤ xs.length) :
    ∃ v1, (∀ W, (Instr.slice 24 v none (some (.int .i64 j)) none).run Tryd.prog W = .ok v1 W) ∧ Fr B w v1 (xs.take j.toNat) := by
  obtain ⟨A, c, rfl, hc, hb, hf⟩ := h
  obtain ⟨i, hi, _, _, _⟩ := i5
  refine ⟨_, cut_to 24 5 .i64 Tryd.underlying24 hi A xs.length c j h0 h1 hc, A, c, ?_, ?_, ?_, fun ad ha hn => hf ad ha ?_⟩
  · rw [List.length_take, Nat.min_eq_left (by omega)]
  · rw [List.length_take]; omega
  · exact hb.take j.toNat (by omega)
  · rw [List.length_take] at hn; omega
/-- v[j:] -/
theorem fr_from {B : Nat} {w : World} {v : Value} {xs : List UInt8} (h : Fr B w v xs) (j : Int) (h0 : 0 ≤ j) (h1 : j ≤ xs.length) :
    ∃ v1, (∀ W, (Instr.slice 24 v (some (.int .i64 j)) none none).run Tryd.prog W = .ok v1 W) ∧ Fr B w v1 (xs.drop j.toNat) := by
  obtain ⟨A, c, rfl, hc, hb, hf⟩ := h
  obtain ⟨i, hi, _, hsz, _⟩ := i5
  refine ⟨_, cut_from 24 5 .i64 Tryd.underlying24 hi 1 hsz A xs.length c j h0 h1, (if c = j.toNat then A else A.map (·.add (j.toNat * 1))), c - j.toNat, ?_, ?_, ?_, fun ad ha hn => ?_⟩
  · rw [List.length_drop]
  · rw [List.length_drop]; omega
  · rw [Nat.mul_one]; exact hb.drop j.toNat (by omega) hc
  · rw [List.length_drop] at hn
    split at ha
    · exact hf ad ha (by omega)
    · obtain ⟨ad', h2, h3⟩ := Option.map_eq_some_iff.1 ha
      rw [← h3, add_block]
      exact hf ad' h2 (by omega)
theorem cells_of_bs {w : World} {ad : Addr} {n : Nat} {xs : List UInt8} (h : Bs w (some ad) n xs) : ∀ j u, (xs.map cell)[j]? = some u → w.cell? (ad.add j) = some u := by
  intro j u hu
  have hl := h.len
  have hj := (List.getElem?_eq_some_iff.1 hu).1
  rw [List.length_map] at hj
  obtain ⟨ad', h1, h2⟩ := h.cells (by omega)
  cases h1
  exact h2 j u hu
/-- append([]byte{}, xs...): a copy in a block of its own -/
theorem run_copyB (W : World) (ty : TypeId) (ad : Addr) (A : Option Addr) (c : Nat) (ys : List UInt8) (h : Bs W A ys.length ys) (hl : ys.length ≤ 140737488355328) :
    ∃ v1 w1, (Builtin.append_ #[24, 24] ty #[.slice (some ad) 0 0, .slice A ys.length c]).run Tryd.prog W = .ok v1 w1 ∧ Ext W w1 ∧ Fr W.heap.size w1 v1 ys := by
  obtain ⟨i, hi, hz, hsz, hby⟩ := i5
  rcases Nat.eq_zero_or_pos ys.length with h0 | h0
  · obtain rfl : ys = [] := List.eq_nil_of_length_eq_zero h0
    refine ⟨.slice (some ad) 0 0, W, ?_, Ext.refl W, some ad, 0, rfl, Nat.le_refl _, h.len ▸ ?_, fun a _ hp => by simp at hp⟩
    · cases A with
      | none => simp [Builtin.append_, run_underlying Tryd.underlying24, sizeOf, typeInfo, hi, Builtin.lenOf, Builtin.firstCells, storeCells]
      | some a => simp [Builtin.append_, run_underlying Tryd.underlying24, sizeOf, typeInfo, hi, Builtin.lenOf, Builtin.firstCells, storeCells, loadCells, loadCellsFrom]
    · exact Kd.C_of_reads (h1 := fun _ => rfl) (d := (0 : Int)) ⟨rfl, by simp, fun hp => by simp at hp⟩
  · obtain ⟨a, rfl, _⟩ := h.cells h0
    have hr := run_append_grow (P := Tryd.prog) W 24 ty 5 i (.int .u8 0) Tryd.underlying24 hi hz ad 0 0 [] (by simp) (by intro j v hj; simp at hj) a ys.length c (ys.map cell) (by rw [List.length_map, hsz, Nat.mul_one]) (cells_of_bs h) (by omega) (by omega) (growslice_fits (by omega) (by rw [hby]; omega))
    simp only [Nat.zero_add] at hr
    have hge := grownCap_ge W ys.length 0 5
    refine ⟨_, _, hr, ((Ext.refl W).drew).alloc _, _, _, rfl, hge, ?_, fun ad' ha _ => by cases ha; exact Nat.le_refl _⟩
    refine Kd.C_of_reads (h1 := fun _ => rfl) (d := (0 : Int)) ⟨ints_length ys, by omega, fun _ => ⟨_, rfl, fun j hj => ?_⟩⟩
    rw [addr_add, Nat.zero_add]
    refine (cell_of_row _ W.heap.size j _ 5 (0, 0) (heap_alloc_new W.drew _)).trans ?_
    rw [Array.empty_append, Array.getElem?_append_left (by simpa using hj)]
    simp [Extern.Stop.cell, ints, List.getD, hj, n8]
/-! ### lists of slices of bytes, the call's own -/
abbrev Pt := Option Addr × Nat × List UInt8
def pv (l : Pt) : Value := .slice l.1 l.2.2.length l.2.1
/-- v is a list of slices of the call's own (from block B on), which hold the bytes of ls; none of them lies in v's own block, nor below block B' -/
def Pl (B B' : Nat) (w : World) (v : Value) (ls : List Pt) : Prop :=
  w.ownsRow B 24 1 v ls.length (ls.map pv) ∧ ∀ l ∈ ls, Fr B' w (pv l) l.2.2 ∧ ∀ ad, l.1 = some ad → 0 < l.2.2.length → v.ownBlock ≠ some ad.block
section
variable {B B' : Nat} {w w' : World} {v : Value} {ls : List Pt}
theorem Pl.nil : Pl B B' w (.slice none 0 0) [] := ⟨own_nil _ _ _ _, fun l h => by cases h⟩
theorem grown_of_only {g : Nat} (hO : Only w g w') : w.grownBy w' (some g) := ⟨hO.os, hO.tape, hO.output, hO.size, fun k hk hne => hO.block k hk (fun e => hne (by rw [e]))⟩
theorem Pl.ext (h : Pl B B' w v ls) (hE : Ext w w') : Pl B B' w' v ls := ⟨pw_own_below h.1 hE, fun l hl => ⟨(h.2 l hl).1.ext hE, (h.2 l hl).2⟩⟩
theorem Pl.only {g : Nat} (h : Pl B B' w v ls) (hO : Only w g w') (hg : g < B) (hg' : g < B') : Pl B B' w' v ls :=
  ⟨h.1.kept (grown_of_only hO) (by
    cases hb : v.ownBlock with
    | none => exact .inl rfl
    | some k => exact .inr (fun e => by have := own_base h.1 k hb; injection e with e; omega)), fun l hl => ⟨(h.2 l hl).1.only hO hg', (h.2 l hl).2⟩⟩
theorem Fr.grown {xs : List UInt8} {A : Option Addr} {n c : Nat} {row : Option Nat} (h : Fr B w (.slice A n c) xs) (hg : w.grownBy w' row) (hne : ∀ ad, A = some ad → 0 < n → row ≠ some ad.block) : Fr B w' (.slice A n c) xs := by
  obtain ⟨A', c', h1, h2, h3, h4⟩ := h
  cases h1
  refine ⟨A, c, rfl, h2, ?_, h4⟩
  have hl : ReadsOf (Value.int .u8) (0 : Int) w A xs.length (ints xs) := Kd.reads_of_C (h1 := fun _ => rfl) h3
  refine Kd.C_of_reads (h1 := fun _ => rfl) (d := (0 : Int)) ⟨hl.1, hl.2.1, fun hn => ?_⟩
  obtain ⟨ad, e, hc⟩ := hl.2.2 hn
  refine ⟨ad, e, fun j hj => ?_⟩
  exact hg.cell (hc j hj) (by rw [add_block]; exact fun e' => hne ad e hn e'.symm)
theorem Pl.slice (h : Pl B B' w v ls) : ∃ A c, v = .slice A ls.length c ∧ ls.length ≤ c := by
  obtain ⟨A, c, rfl⟩ := own_slice h.1
  exact ⟨A, c, rfl, own_le h.1⟩
theorem Pl.bss (h : Pl B B' w v ls) : ∃ A c, v = .slice A ls.length c ∧ ls.length ≤ c ∧ Bss w A ls.length (ls.map (·.2.2)) := by
  obtain ⟨A, c, rfl, hc⟩ := h.slice
  refine ⟨A, c, rfl, hc, ?_⟩
  have hmax : ls.length ≤ 9223372036854775807 := by
    rcases h.1.2 with ⟨_, h0⟩ | ⟨_, cap, _, _, _, _, h1, h2, _⟩
    · omega
    · unfold maxLen at h2; omega
  refine ⟨by simp, hmax, fun hn => ?_⟩
  obtain ⟨g, cap, e, _, _⟩ := h.1.form hn
  injection e with e1 e2 e3
  subst e1
  subst e3
  refine ⟨_, rfl, fun j p hj => ?_⟩
  obtain ⟨hjl, hp⟩ := List.getElem?_eq_some_iff.1 hj
  have hjl' : j < ls.length := by simpa using hjl
  obtain ⟨A', c', hv', hc', hb', _⟩ := (h.2 ls[j] (List.getElem_mem _)).1
  have hpe : p = ints ls[j].2.2 := by rw [← hp]; simp
  subst hpe
  refine ⟨[pv ls[j]], rfl, ⟨A', c', by rw [ints_length, hv'], by rw [ints_length]; exact hc', by rw [ints_length]; exact hb'⟩, fun i u hu => ?_⟩
  have hi : i = 0 := by
    have := (List.getElem?_eq_some_iff.1 hu).1
    simpa using this
  subst hi
  have hu' : u = pv ls[j] := by simpa using hu.symm
  rw [hu', show (⟨g, 0, none⟩ : Addr).add (j * (Kd.slice 5 (Kd.int .u8)).sz + 0) = (⟨g, 0, none⟩ : Addr).add j by show (⟨g, 0, none⟩ : Addr).add (j * 1 + 0) = _; rw [Nat.mul_one, Nat.add_zero]]
  exact h.1.cells (g := g) rfl j _ (by simp [hjl'])
end
section
variable {ops : Array Oper} {rest : List Oper} {o : Oper} {a : Act} {Q : Exit → Act → World → Prop}
/-- 'ls = append(ls, p)' -/
theorem wpL_pl {W : World} {B B' : Nat} {v : Value} {ls : List Pt} (p : Pt) (hgd : o.guard = none) (s x : Operand) (ho : o.op = .call { callee := .builtin .append, args := #[s, x], argTypes := #[22, 22] }) (hs : a.eval s = v) (hx : a.eval x = .slice (some ⟨W.heap.size, 0, none⟩) 1 1)
    (h : Pl B B' W v ls) (hp : Fr B' W (pv p) p.2.2) (hpv : ∀ ad, p.1 = some ad → 0 < p.2.2.length → v.ownBlock ≠ some ad.block) (hB : B ≤ W.heap.size) (hl : ls.length < 5000000000000)
    (k : ∀ v1 w1, Pl B B' w1 v1 (ls ++ [p]) → Below B W w1 → W.grownBy w1 v.ownBlock → wpList Tryd.prog ops Q rest (a.put o.dst v1) w1) : wpList Tryd.prog ops Q (o :: rest) a (W.alloc (.cells #[pv p] 24)) := by
  refine print_append (P := Tryd.prog) B hgd s x 22 24 (.slice none 0 0) 24 ho Tryd.underlying22 info24 rfl (by omega) v (ls.map pv) (pv p) hs hx rfl (by rw [List.length_map]; exact h.1) (Below.refl _ _) hB (by rw [List.length_map]; omega) ?_
  intro v1 w1 hO hb hg hat
  refine k v1 w1 ⟨by simpa using hO, fun l hl' => ?_⟩ hb hg
  have key : ∀ l, Fr B' W (pv l) l.2.2 → (∀ ad, l.1 = some ad → 0 < l.2.2.length → v.ownBlock ≠ some ad.block) → Fr B' w1 (pv l) l.2.2 ∧ ∀ ad, l.1 = some ad → 0 < l.2.2.length → v1.ownBlock ≠ some ad.block := by
    intro l hf hne
    refine ⟨Fr.grown hf hg hne, fun ad ha hn => ?_⟩
    rcases hat with e | ⟨b, e, hb'⟩
    · rw [e]; exact hne ad ha hn
    · rw [e]
      intro e'
      injection e' with e'
      obtain ⟨A', c', hv', _, hbs, _⟩ := hf
      have e1 : A' = some ad := by unfold pv at hv'; injection hv' with e2; rw [← e2, ha]
      have := fr_lt hbs ad e1 hn
      omega
  rcases List.mem_append.1 hl' with hl' | hl'
  · exact key l (h.2 l hl').1 (h.2 l hl').2
  · rw [List.mem_singleton] at hl'
    subst hl'
    exact key _ hp hpv
theorem wpL_ex {op : Op} {dst : Option Tmp} {ty : TypeId} {pos : String} {after : Array Edge} {guard : Option (Nat × Bool)} {w : World} {F : Value → World → Prop} (hw : Region.wanted ⟨dst, op, ty, pos, after, guard⟩ (yielded ops a.tmps) = true)
    (h : ∃ v w1, (execOp a.eval ⟨dst, op, ty, pos, after, guard⟩).run Tryd.prog w = .ok (.value v) w1 ∧ F v w1) (k : ∀ v w1, F v w1 → wpList Tryd.prog ops Q rest (a.put dst v) w1) : wpList Tryd.prog ops Q (⟨dst, op, ty, pos, after, guard⟩ :: rest) a w := by
  obtain ⟨v, w1, hr, hf⟩ := h
  exact wpL_val v hw hr (k v w1 hf)
end
theorem exec_append {P : Program} {w : World} {ρ : Operand → Value} {o : Oper} {s x : Operand} {t u : TypeId} (ho : o.op = .call { callee := .builtin .append, args := #[s, x], argTypes := #[t, u] }) {v : Value} {w1 : World}
    (h : (Builtin.append_ #[t, u] o.type #[ρ s, ρ x]).run P w = .ok v w1) : (execOp ρ o).run P w = .ok (.value v) w1 := by
  unfold execOp
  simp only [ho, resolve, invoke, builtin, Sem.run_bind, Sem.run_pure, Result.andThen_ok, List.map_toArray, List.map_cons, List.map_nil, h]
theorem elem24 : Tryd.prog.underlying 24 = some (.slice (Tryd.prog.elem 24)) := by kernel_rfl
theorem exec_slice {w : World} {ρ : Operand → Value} {o : Oper} {x : Operand} {lo hi mx : Option Operand} (ho : o.op = .slice 24 x lo hi mx) {v : Value} {w1 : World}
    (h : (Instr.slice 24 (ρ x) (lo.map ρ) (hi.map ρ) (mx.map ρ)).run Tryd.prog w = .ok v w1) : (execOp ρ o).run Tryd.prog w = .ok (.value v) w1 := by
  unfold execOp
  rw [ho]
  simp only [Sem.run_bind, Sem.run_pure, Result.andThen_ok, run_sliceAt_slice _ _ _ _ _ _ elem24, h]
section
variable {ops : Array Oper} {rest : List Oper} {a : Act} {Q : Exit → Act → World → Prop} {dst : Option Tmp} {ty : TypeId} {pos : String} {after : Array Edge} {guard : Option (Nat × Bool)} {w : World}
/-- 'x[lo:hi]' -/
theorem wpL_slice {x : Operand} {lo hi mx : Option Operand} (v : Value) (hw : Region.wanted ⟨dst, .slice 24 x lo hi mx, ty, pos, after, guard⟩ (yielded ops a.tmps) = true) (h : (Instr.slice 24 (a.eval x) (lo.map a.eval) (hi.map a.eval) (mx.map a.eval)).run Tryd.prog w = .ok v w)
    (k : wpList Tryd.prog ops Q rest (a.put dst v) w) : wpList Tryd.prog ops Q (⟨dst, .slice 24 x lo hi mx, ty, pos, after, guard⟩ :: rest) a w := wpL_val v hw (exec_slice (o := ⟨dst, .slice 24 x lo hi mx, ty, pos, after, guard⟩) rfl h) k
/-- 'append(s, x...)' -/
theorem wpL_append {s x : Operand} {t u : TypeId} {F : Value → World → Prop} (hw : Region.wanted ⟨dst, .call { callee := .builtin .append, args := #[s, x], argTypes := #[t, u] }, ty, pos, after, guard⟩ (yielded ops a.tmps) = true)
    (h : ∃ v w1, (Builtin.append_ #[t, u] ty #[a.eval s, a.eval x]).run Tryd.prog w = .ok v w1 ∧ F v w1) (k : ∀ v w1, F v w1 → wpList Tryd.prog ops Q rest (a.put dst v) w1) :
    wpList Tryd.prog ops Q (⟨dst, .call { callee := .builtin .append, args := #[s, x], argTypes := #[t, u] }, ty, pos, after, guard⟩ :: rest) a w := by
  obtain ⟨v, w1, hr, hf⟩ := h
  exact wpL_val v hw (exec_append (o := ⟨dst, .call { callee := .builtin .append, args := #[s, x], argTypes := #[t, u] }, ty, pos, after, guard⟩) rfl hr) (k v w1 hf)
end
end Go.Proofs.YtnkhhnfmijljbaaDoor
