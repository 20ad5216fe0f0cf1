/- cairnlaw02.ShaSums: true. -/
import Derived.Test.YtnkhhnfmijljbaaDoorJoi
import Derived.Test.YtnkhhnfmijljbaaDoorPcs
set_option linter.unusedVariables false
set_option linter.unusedSimpArgs false
namespace Go.Proofs.YtnkhhnfmijljbaaDoor
open Go.RowKit Go.Proofs.YtnkhhnfmijljbaaDoorW.PrintWords Go.Proofs.YtnkhhnfmijljbaaDoorW.PrintLast Go.Proofs.YtnkhhnfmijljbaaDoorW.PrintMore
open Extern.Stop (cell)

/-- none of these parts lies in v's own block -/
def Sep (v : Value) (E : Pt → Prop) : Prop := ∀ l, E l → ∀ ad, l.1 = some ad → 0 < l.2.2.length → v.ownBlock ≠ some ad.block
def Ol (B : Nat) (w : World) (v : Value) (ls : List Pt) : Prop := w.ownsRow B 24 1 v ls.length (ls.map pv)
def Fe (w : World) (E : Pt → Prop) : Prop := ∀ l, E l → Fr 0 w (pv l) l.2.2
def Dis (v vo : Value) : Prop := ∀ b, v.ownBlock = some b → vo.ownBlock ≠ some b
section
variable {ops : Array Oper} {rest : List Oper} {o : Oper} {a : Act} {Q : Exit → Act → World → Prop}
/-- 'ls = append(ls, p)', where another list of the call's own stands by -/
theorem wpL_px {W : World} {B : Nat} {v vo : Value} {ls lo : List Pt} {E : Pt → Prop} (p : Pt) (hgd : o.guard = none) (s x : Operand) (ho : o.op = .call { callee := .builtin .append, args := #[s, x], argTypes := #[22, 22] }) (hs : a.eval s = v) (hx : a.eval x = .slice (some ⟨W.heap.size, 0, none⟩) 1 1)
    (h : Ol B W v ls) (h2 : Ol B W vo lo) (hF : Fe W E) (hS : Sep v E) (hD : Dis v vo) (hB : B ≤ W.heap.size) (hl : ls.length < 5000000000000)
    (k : ∀ v1 w1, Ol B w1 v1 (ls ++ [p]) → Ol B w1 vo lo → Fe w1 E → Sep v1 E → Dis v1 vo → Below B W w1 → wpList Tryd.prog ops Q rest (a.put o.dst v1) w1) : wpList Tryd.prog ops Q (o :: rest) a (W.alloc (.cells #[pv p] 24)) := by
  refine print_append (P := Tryd.prog) B hgd s x 22 24 (.slice none 0 0) 24 ho Tryd.underlying22 info24 rfl (by omega) v (ls.map pv) (pv p) hs hx rfl (by rw [List.length_map]; exact h) (Below.refl _ _) hB (by rw [List.length_map]; omega) ?_
  intro v1 w1 hO hb hg hat
  refine k v1 w1 (by unfold Ol; simpa using hO) ?_ (fun l hl' => Fr.grown (hF l hl') hg (hS l hl')) ?_ ?_ hb
  · refine World.ownsRow.kept h2 hg ?_
    cases hb : vo.ownBlock with
    | none => exact .inl rfl
    | some k => exact .inr (fun e => hD k e.symm hb)
  · intro l hl' ad ha hn
    rcases hat with e | ⟨b, e, hb'⟩
    · rw [e]; exact hS l hl' ad ha hn
    · rw [e]
      intro e'
      injection e' with e'
      obtain ⟨A', c', hv', _, hbs, _⟩ := hF l hl'
      have e1 : A' = some ad := by unfold pv at hv'; injection hv' with e2; rw [← e2, ha]
      have := fr_lt hbs ad e1 hn
      omega
  · intro b hb1
    rcases hat with e | ⟨b', e, hb'⟩
    · exact hD b (by rw [← e]; exact hb1)
    · intro hvo
      rw [e] at hb1
      injection hb1 with hb1
      have := own_lt h2 b hvo
      omega
end
theorem Dis.symm {v vo : Value} (h : Dis v vo) : Dis vo v := fun b h1 h2 => h b h2 h1
structure Px (B : Nat) (w : World) (v3 v4 : Value) (l1 l2 : List Pt) (E : Pt → Prop) : Prop where
  o3 : Ol B w v3 l1
  o4 : Ol B w v4 l2
  fe : Fe w E
  s3 : Sep v3 E
  s4 : Sep v4 E
  dis : Dis v3 v4
  e1 : ∀ l ∈ l1, E l
  e2 : ∀ l ∈ l2, E l
theorem Px.ext {B : Nat} {w w' : World} {v3 v4 : Value} {l1 l2 : List Pt} {E : Pt → Prop} (h : Px B w v3 v4 l1 l2 E) (hE : Ext w w') : Px B w' v3 v4 l1 l2 E :=
  ⟨pw_own_below h.o3 hE, pw_own_below h.o4 hE, fun l hl => (h.fe l hl).ext hE, h.s3, h.s4, h.dis, h.e1, h.e2⟩
theorem Px.nil (B : Nat) (w : World) : Px B w (.slice none 0 0) (.slice none 0 0) [] [] (fun _ => False) :=
  ⟨own_nil _ _ _ _, own_nil _ _ _ _, fun _ h => h.elim, fun _ h => h.elim, fun _ h => h.elim, (fun _ h => by simp [Value.ownBlock] at h), (fun _ h => by cases h), (fun _ h => by cases h)⟩
/-- two parts in a new block come in -/
theorem Px.more {B g c : Nat} {w w' : World} {v3 v4 : Value} {l1 l2 : List Pt} {E : Pt → Prop} {q : List UInt8} (h : Px B w v3 v4 l1 l2 E) (hE : Ext w w') (hg : w.heap.size ≤ g) (hc : q.length + 2 ≤ c) (hb : Bs w' (some ⟨g, 0, none⟩) (q.length + 2) (q ++ [90, 165])) :
    Px B w' v3 v4 l1 l2 (fun l => E l ∨ l = (some ⟨g, 0, none⟩, c, q) ∨ l = (some ⟨g, 0, none⟩, c, q ++ [90, 165])) := by
  have k := h.ext hE
  have hl2 : (q ++ [90, 165]).length = q.length + 2 := by simp
  have sep : ∀ {v : Value} {ls : List Pt}, Ol B w v ls → Sep v E → Sep v (fun l => E l ∨ l = (some ⟨g, 0, none⟩, c, q) ∨ l = (some ⟨g, 0, none⟩, c, q ++ [90, 165])) := by
    intro v ls hO hS l hl ad ha hn
    rcases hl with hl | rfl | rfl
    · exact hS l hl ad ha hn
    · cases ha; intro e; have h9 : g < w.heap.size := own_lt hO _ e; omega
    · cases ha; intro e; have h9 : g < w.heap.size := own_lt hO _ e; omega
  refine ⟨k.o3, k.o4, ?_, sep h.o3 h.s3, sep h.o4 h.s4, k.dis, fun l hl => .inl (h.e1 l hl), fun l hl => .inl (h.e2 l hl)⟩
  intro l hl
  rcases hl with hl | rfl | rfl
  · exact k.fe l hl
  · refine ⟨_, _, rfl, by show q.length ≤ c; omega, ?_, fun _ _ _ => Nat.zero_le _⟩
    have := hb.len ▸ hb
    have h3 := this.take q.length (by omega)
    rw [List.take_left'  rfl] at h3
    exact h3
  · refine ⟨_, _, rfl, by show (q ++ [90, 165]).length ≤ c; omega, by rw [hl2]; exact hb, fun _ _ _ => Nat.zero_le _⟩
theorem Px.pl3 {B : Nat} {w : World} {v3 v4 : Value} {l1 l2 : List Pt} {E : Pt → Prop} (h : Px B w v3 v4 l1 l2 E) : Pl B 0 w v3 l1 := ⟨h.o3, fun l hl => ⟨h.fe l (h.e1 l hl), h.s3 l (h.e1 l hl)⟩⟩
theorem Px.pl4 {B : Nat} {w : World} {v3 v4 : Value} {l1 l2 : List Pt} {E : Pt → Prop} (h : Px B w v3 v4 l1 l2 E) : Pl B 0 w v4 l2 := ⟨h.o4, fun l hl => ⟨h.fe l (h.e2 l hl), h.s4 l (h.e2 l hl)⟩⟩
theorem cell_ext {w w' : World} (hE : Ext w w') {p : Addr} {v : Value} (h : w.cell? p = some v) : w'.cell? p = some v := (hE.cell (Go.World.block_lt_of_cell? _ _ h)).trans h
/-- the k-th of a list of the call's own -/
theorem Pl.at_ {B B' : Nat} {w : World} {v : Value} {ls : List Pt} (h : Pl B B' w v ls) (k : Nat) (hk : k < ls.length) : ∃ ad c A c', v = .slice (some ad) ls.length c ∧ w.cell? (ad.add k) = some (.slice A ls[k].2.2.length c') ∧ ls[k].2.2.length ≤ c' ∧ Bs w A ls[k].2.2.length ls[k].2.2 := by
  obtain ⟨g, cap, e, _, _⟩ := h.1.form (by omega)
  obtain ⟨A', c', hv', hc', hb', _⟩ := (h.2 ls[k] (List.getElem_mem _)).1
  refine ⟨⟨g, 0, none⟩, cap, A', c', e, ?_, hc', hb'⟩
  have := h.1.cells (g := g) (by rw [e]; rfl) k (pv ls[k]) (by simp [hk])
  rw [hv'] at this
  exact this
theorem map_at {α β : Type} {f : α → β} {l : List α} {m : List β} (h : l.map f = m) (k : Nat) (hk : k < l.length) (d : β) : f l[k] = m.getD k d := by
  subst h
  simp [List.getD, hk]
set_option maxHeartbeats 2000000 in
set_option maxRecDepth 100000 in
theorem shaSums_calls (w : World) (P : Option Addr) (pc : Nat) (ps : List (List UInt8)) (hK : KTab w) (hF : FTab w) (hL : LTab w) (hR : RTab w) (hp : Bss w P ps.length ps) (hpc : ps.length ≤ pc) (hpl : ps.flatten.length ≤ 1048576) (hpn : ps.length ≤ 1048576) :
    Calls Tryd.prog 3 #[.slice P ps.length pc] w (fun e w' => e = .returned (.bool true) ∧ Below w.heap.size w w') := by
  have HK := Aside0.mk hK
  have HF := Aside0.mk hF
  have HL := Aside0.mk hL
  have HR := Aside0.mk hR
  have HP := Aside0.mk hp
  clear hK hF hL hR hp
  go_enter Tryd.func3, Tryd.ntmps3
  go_wp2_with fail
  refine (awake_calls w HK.out HF.out HL.out).mono ?_
  rintro e w1 ⟨rfl, hB1⟩
  have HE1 := Aside0.mk (show Ext w w1 from hB1)
  clear hB1
  go_wp2_with fail
  go_loopw [3, 4, 5] (fun v3 v4 i wr => ∃ (k : Nat) (l1 l2 : List Pt) (E : Pt → Prop), k ≤ ps.length ∧ i = .int .i64 k ∧ Ext w wr ∧ Px w.heap.size wr v3 v4 l1 l2 E ∧ l1.map (·.2.2) = ps.take k ∧ l2.map (·.2.2) = (ps.take k).map (· ++ [90, 165])) (fun _ _ i _ => ps.length - (intOf i).toNat)
  case atStart => exact ⟨0, [], [], _, by omega, rfl, HE1.out, Px.nil _ _, rfl, rfl⟩
  case round =>
    obtain ⟨k, l1, l2, E, hk, rfl, hE, hX, hm1, hm2⟩ := hrel
    have HE := Aside0.mk hE
    have HX := Aside0.mk hX
    have HM1 := Aside0.mk hm1
    have HM2 := Aside0.mk hm2
    have hl1 : l1.length = k := by have := congrArg List.length hm1; simp at this; omega
    have hl2 : l2.length = k := by have := congrArg List.length hm2; simp at this; omega
    by_cases hlt : k < ps.length
    · obtain ⟨ad, A', c', rfl, hcell, hc', hbs⟩ := (HP.out.below hE).at_ k hlt
      have hnx : ps.take (k + 1) = ps.take k ++ [ps.getD k []] := by
        rw [List.take_succ_eq_append_getElem hlt]
        simp [List.getD, hlt]
      have hfl1 : (ps.take (k + 1)).flatten.length ≤ ps.flatten.length := by
        conv => rhs; rw [← List.take_append_drop (k + 1) ps, List.flatten_append, List.length_append]
        omega
      obtain ⟨q, hq⟩ : ∃ q, q = ps.getD k [] := ⟨_, rfl⟩
      rw [← hq] at hcell hc' hbs hnx
      have hql : q.length ≤ 1048576 := by rw [hnx, List.flatten_append, List.length_append] at hfl1; simp only [List.flatten_cons, List.flatten_nil, List.append_nil] at hfl1; omega
      have HNX := Aside0.mk hnx
      have HB := Aside0.mk hbs
      have HL1 := Aside0.mk hl1
      have HL2 := Aside0.mk hl2
      have hE0 : (0 : Int) ≤ k ∧ (k : Int) < ps.length ∧ (k : Int) < 1048576 := by omega
      clear hE hX hm1 hm2 hl1 hl2 hnx hbs hq hfl1
      go_wp2_with fail
      refine (copied_calls wr A' c' q HB.out hc' (by omega)).mono ?_
      rintro e w2 ⟨g, c2, rfl, hg, hc2, hb2, hE2⟩
      have hX2 := HX.out.more hE2 hg hc2 hb2
      obtain ⟨q2, hq2⟩ : ∃ q2, q2 = q ++ [90, 165] := ⟨_, rfl⟩
      have hq2l : q.length + 2 = q2.length := by rw [hq2]; simp
      rw [← hq2] at hX2
      have HX2 := Aside0.mk hX2
      have HQ2 := Aside0.mk hq2
      have HE2 := Aside0.mk (HE.out.trans hE2)
      have hwg : w.heap.size ≤ w2.heap.size := HE2.out.size
      rw [hq2l]
      clear hg hb2 hE2 hcell hq2 hX2 hq2l
      go_wp2_with (with_reducible refine gate_dst (N := 31) rfl ?_; refine Aside0.out ?_)
      refine Aside0.mk ?_
      refine wpL_px (some ⟨g, 0, none⟩, c2, q) rfl _ _ rfl rfl rfl HX2.out.o3 HX2.out.o4 HX2.out.fe HX2.out.s3 HX2.out.dis hwg (by rw [HL1.out]; omega) ?_
      intro v3 w3 hO3 hO4 hFe3 hS3 hD3 hB3
      have HX3 := Aside0.mk (show Px w.heap.size w3 v3 _ (l1 ++ [(some ⟨g, 0, none⟩, c2, q)]) l2 _ from ⟨hO3, hO4, hFe3, hS3, HX2.out.s4, hD3, fun l hl => by
        rcases List.mem_append.1 hl with hl | hl
        · exact HX2.out.e1 l hl
        · rw [List.mem_singleton] at hl; exact .inr (.inl hl), HX2.out.e2⟩)
      have HE3 := Aside0.mk (show Ext w w3 from Below.trans HE2.out hB3)
      have hwg3 : w.heap.size ≤ w3.heap.size := HE3.out.size
      clear hO3 hO4 hFe3 hS3 hD3 hB3 hwg HX2
      go_wp2_with (with_reducible refine gate_dst (N := 35) rfl ?_; refine Aside0.out ?_)
      refine Aside0.mk ?_
      refine wpL_px (some ⟨g, 0, none⟩, c2, q2) rfl _ _ rfl rfl rfl HX3.out.o4 HX3.out.o3 HX3.out.fe HX3.out.s4 HX3.out.dis.symm hwg3 (by rw [HL2.out]; omega) ?_
      intro v4 w4 hO4 hO3 hFe4 hS4 hD4 hB4
      have HX4 := Aside0.mk (show Px w.heap.size w4 v3 v4 (l1 ++ [(some ⟨g, 0, none⟩, c2, q)]) (l2 ++ [(some ⟨g, 0, none⟩, c2, q2)]) _ from ⟨hO3, hO4, hFe4, HX3.out.s3, hS4, hD4.symm, HX3.out.e1, fun l hl => by
        rcases List.mem_append.1 hl with hl | hl
        · exact HX3.out.e2 l hl
        · rw [List.mem_singleton] at hl; exact .inr (.inr hl)⟩)
      have HE4 := Aside0.mk (show Ext w w4 from Below.trans HE3.out hB4)
      clear hO3 hO4 hFe4 hS4 hD4 hB4 hwg3 HX3
      go_wp2
      go_roundw
      case rel => exact ⟨k + 1, _, _, _, by omega, by simp, HE4.out, HX4.out, by rw [List.map_append, HM1.out, HNX.out]; rfl, by rw [List.map_append, HM2.out, HNX.out, List.map_append, HQ2.out]; rfl⟩
      case measure => simp [intOf]; omega
    · obtain rfl : k = ps.length := by omega
      rw [List.take_length] at hm1 hm2
      have HN1 := Aside0.mk hm1
      have HN2 := Aside0.mk hm2
      have HL1 := Aside0.mk hl1
      have HL2 := Aside0.mk hl2
      have HPr := Aside0.mk (HP.out.below hE)
      clear hE hX hm1 hm2 hl1 hl2 HM1 HM2
      go_wp2_with fail
      refine (join_calls wr P pc ps HPr.out (by omega) (by omega)).mono ?_
      rintro e w2 ⟨vj, rfl, hO2, hE2⟩
      obtain ⟨Aj, cj, rfl, hcj, hbj⟩ := hO2.open
      obtain ⟨fl, hfl⟩ : ∃ fl, fl = ps.flatten := ⟨_, rfl⟩
      rw [← hfl] at hcj hbj ⊢ hpl
      have HFL := Aside0.mk hfl
      have HBJ := Aside0.mk hbj
      have HE2 := Aside0.mk (HE.out.trans hE2)
      have HX2 := Aside0.mk (HX.out.ext hE2)
      clear hE2 hO2 hbj hfl
      go_wp2_with fail
      refine (refSum_calls w2 Aj cj fl (HR.out.ext HE2.out) HBJ.out hcj (by omega)).mono ?_
      rintro e w3 ⟨rfl, hE3⟩
      obtain ⟨dl, hdl⟩ : ∃ dl, dl = (Spec.digest fl).map cell := ⟨_, rfl⟩
      rw [show hashV (Spec.digest fl) = .agg dl.toArray by rw [hdl]; rfl]
      have HDL := Aside0.mk hdl
      have HDZ := Aside0.mk (show dl.toArray.size = 32 by rw [hdl]; simp [Spec.digest_length])
      have HDO := Aside0.mk (show dl.toArray.all (·.oneCell') = true by rw [hdl]; exact oneCells _)
      have HE3 := Aside0.mk (HE2.out.trans hE3)
      have HX3 := Aside0.mk (HX2.out.ext hE3)
      clear hE3 hdl
      go_wp2_with (with_reducible change wpList _ _ _ (Oper.mk _ (Op.store 28 _ _) _ _ _ _ :: _) _ _; refine Aside0.out ?_)
      refine Aside0.mk ?_
      refine wpList_store_row rfl 28 _ _ rfl w3.heap.size dl.toArray rfl rfl 28 (z8 32).toArray (heap_alloc_new _ _) (by rw [HDZ.out]; kernel_rfl) (by rw [HDZ.out]; rfl) HDO.out ?_
      have hEr : Ext w3 ((w3.alloc (.cells (z8 32).toArray 28)).setRow w3.heap.size dl.toArray) := below_alloc_setRow _ _ _
      obtain ⟨G8, hG8⟩ : ∃ G8, G8 = w3.heap.size := ⟨_, rfl⟩
      refine wpList_world (fun w4 => Ext w w4 ∧ Px w.heap.size w4 _ _ l1 l2 E ∧ Row w4 G8 dl 28) ⟨HE3.out.trans hEr, HX3.out.ext hEr, by rw [hG8]; exact alloc_setRow _ _ _ _⟩ ?_
      rintro w4 ⟨hE4, hX4, hR4⟩
      rw [← hG8]
      have HE4 := Aside0.mk hE4
      have HX4 := Aside0.mk hX4
      have HR4 := Aside0.mk hR4
      clear hE4 hX4 hR4 hEr hG8
      obtain ⟨A3, c3, e3, hc3, hb3⟩ := HX4.out.pl3.bss
      rw [HN1.out, HL1.out] at hb3
      rw [HL1.out] at e3 hc3
      subst e3
      have HB3 := Aside0.mk hb3
      clear hb3
      go_wp2_with fail
      have hcall := shaSum_calls w4 A3 c3 ps (HK.out.ext HE4.out) (HF.out.ext HE4.out) HB3.out (by rw [← HFL.out]; omega)
      refine hcall.mono ?_
      rintro e w5 ⟨rfl, hE5⟩
      rw [← HFL.out, show hashV (Spec.digest fl) = .agg dl.toArray by rw [HDL.out]; rfl]
      have HE5 := Aside0.mk (HE4.out.trans hE5)
      have HX5 := Aside0.mk (HX4.out.ext hE5)
      have HR5 := Aside0.mk (HR4.out.ext hE5)
      clear hE5 hcall
      go_wp2_with (with_reducible change wpList _ _ _ (Oper.mk _ (Op.store 28 _ _) _ _ _ _ :: _) _ _; refine Aside0.out ?_)
      refine Aside0.mk ?_
      refine wpList_store_row rfl 28 _ _ rfl w5.heap.size dl.toArray rfl rfl 28 (z8 32).toArray (heap_alloc_new _ _) (by rw [HDZ.out]; kernel_rfl) (by rw [HDZ.out]; rfl) HDO.out ?_
      have hEr : Ext w5 ((w5.alloc (.cells (z8 32).toArray 28)).setRow w5.heap.size dl.toArray) := below_alloc_setRow _ _ _
      obtain ⟨G9, hG9⟩ : ∃ G9, G9 = w5.heap.size := ⟨_, rfl⟩
      refine wpList_world (fun w6 => Ext w w6 ∧ Px w.heap.size w6 _ _ l1 l2 E ∧ Row w6 G8 dl 28 ∧ Row w6 G9 dl 28) ⟨HE5.out.trans hEr, HX5.out.ext hEr, HR5.out.ext hEr, by rw [hG9]; exact alloc_setRow _ _ _ _⟩ ?_
      rintro w6 ⟨hE6, hX6, hR6, hR6'⟩
      rw [← hG9]
      have HE6 := Aside0.mk hE6
      have HX6 := Aside0.mk hX6
      have HR6 := Aside0.mk hR6
      have HR6' := Aside0.mk hR6'
      have heq := eq28 w6 (Spec.digest fl) (Spec.digest fl) (Spec.digest_length _) (Spec.digest_length _)
      rw [beq_self_eq_true, ← HDL.out] at heq
      have HEQ := Aside0.mk heq
      clear hE6 hX6 hR6 hR6' hEr hG9 heq
      go_wp2_with (with_reducible refine gate_dst (N := 41) rfl ?_; refine Aside0.out ?_)
      refine Aside0.mk ?_
      refine wpList_load_row rfl 28 _ rfl G9 rfl 28 dl.toArray (0, 0) _ HR6'.out Tryd.underlying28 rfl (by rw [HDZ.out]; kernel_rfl) ?_
      refine wpList_load_row rfl 28 _ rfl G8 rfl 28 dl.toArray (0, 0) _ HR6.out Tryd.underlying28 rfl (by rw [HDZ.out]; kernel_rfl) ?_
      refine wpL_val (.bool false) (w1 := w6) (by rfl) (by simp [execOp, Act.eval, Act.put, HEQ.out, go_sem]) ?_
      go_wp2_with fail
      go_loopw [10] (fun i wr => ∃ (k : Nat), k ≤ ps.length ∧ i = .int .i64 k ∧ Ext w wr ∧ Px w.heap.size wr (.slice A3 ps.length c3) _ l1 l2 E) (fun i _ => ps.length - (intOf i).toNat)
      case atStart => exact ⟨0, by omega, rfl, HE6.out, HX6.out⟩
      case round =>
        obtain ⟨k, hk, rfl, hE, hX⟩ := hrel
        have HE := Aside0.mk hE
        have HX := Aside0.mk hX
        by_cases hlt : k < ps.length
        · obtain ⟨ad, A', c', rfl, hcell, hc', hbs⟩ := (HP.out.below hE).at_ k hlt
          obtain ⟨a4, c4, Ar, cr, e4, h4, hcr, hbr⟩ := hX.pl4.at_ k (by rw [HL2.out]; exact hlt)
          obtain ⟨a3, c3', Ai, ci, e3, h3, hci, hbi⟩ := hX.pl3.at_ k (by rw [HL1.out]; exact hlt)
          rw [HL2.out] at e4
          rw [HL1.out] at e3
          injection e3 with e31 e32 e33
          subst e31 e33 e4
          rw [map_at HN2.out k (by rw [HL2.out]; exact hlt) []] at h4 hcr hbr
          rw [map_at HN1.out k (by rw [HL1.out]; exact hlt) []] at h3 hci hbi
          rw [show (ps.map (· ++ [90, 165])).getD k [] = ps.getD k [] ++ [90, 165] by simp [List.getD, hlt]] at h4 hcr hbr
          have hfl1 : (ps.getD k []).length ≤ ps.flatten.length := by
            conv => rhs; rw [← List.take_append_drop k ps, List.drop_eq_getElem_cons hlt, List.flatten_append, List.flatten_cons, List.length_append, List.length_append]
            simp only [List.getD, List.getElem?_eq_getElem hlt, Option.getD_some]
            omega
          rw [← HFL.out] at hfl1
          obtain ⟨q, hq⟩ : ∃ q, q = ps.getD k [] := ⟨_, rfl⟩
          rw [← hq] at hcell hc' hbs h4 hcr hbr h3 hci hbi hfl1
          obtain ⟨q2, hq2⟩ : ∃ q2, q2 = q ++ [90, 165] := ⟨_, rfl⟩
          rw [← hq2] at h4 hcr hbr
          have hq2l : q2.length = q.length + 2 := by rw [hq2]; simp
          obtain ⟨ar, rfl, h90⟩ := hbr.cell q.length (by omega)
          obtain ⟨_, e', h165⟩ := hbr.cell (q.length + 1) (by omega)
          cases e'
          have e90 : q2.getD q.length 0 = 90 := by rw [hq2]; simp [List.getD]
          have e165 : q2.getD (q.length + 1) 0 = 165 := by rw [hq2]; simp [List.getD]
          rw [e90] at h90
          rw [e165] at h165
          obtain ⟨i5, hi5, _, hsz, _⟩ := i5
          have hcut := cut_to (P := Tryd.prog) 24 5 .i64 Tryd.underlying24 hi5 (some ar) q2.length cr (q.length : Int) (by omega) (by omega) hcr
          rw [Int.toNat_natCast] at hcut
          have HCUT := Aside0.mk hcut
          have hrq := hbr.take q.length (by omega)
          rw [hq2, List.take_left' rfl] at hrq
          obtain ⟨m1, hm1⟩ : ∃ m1, m1 = q.length + 1 := ⟨_, rfl⟩
          rw [← hm1] at h165
          have HW1 := Aside0.mk (show IntKind.i64.wrap ((q.length : Int) + 1) = (m1 : Int) by rw [wrap64 _ (by omega) (by omega), hm1]; rfl)
          have HRQ := Aside0.mk hrq
          have HBQ := Aside0.mk hbs
          have H4 := Aside0.mk h4
          have H3 := Aside0.mk h3
          have H0 := Aside0.mk hcell
          have H90 := Aside0.mk (show wr.cell? (ar.add q.length) = some (.int .u8 90) from h90)
          have H165 := Aside0.mk (show wr.cell? (ar.add m1) = some (.int .u8 165) from h165)
          have b4 : (0 : Int) ≤ k ∧ (k : Int) < ps.length ∧ (k : Int) < 1048576 := by omega
          have b5 : (0 : Int) ≤ q.length ∧ (q.length : Int) < q2.length := by omega
          have b6 : (0 : Int) ≤ m1 ∧ (m1 : Int) < q2.length := by omega
          clear hE hX e90 e165 hbs hbr hbi hcr hci h4 h3 h90 h165 hcut hrq hq hq2 hq2l hm1 hi5 hsz hc'
          go_wp2_with fail
          refine ext_region 42 [(0, 55), (1, 56), (2, 57), (3, 58), (4, 59), (5, 60), (6, 61), (7, 62), (8, 63), (9, 64), (10, 65), (11, 66), (12, 67), (13, 68), (14, 69), (15, 70), (16, 71), (17, 72), (18, 73), (19, 74), (20, 75), (21, 76), (22, 77), (23, 78), (24, 79), (25, 80), (26, 81), (27, 82), (28, 83), (29, 84), (30, 85), (31, 86), (32, 87), (33, 88), (34, 89), (35, 90), (36, 91), (37, 92), (38, 93), (39, 94), (40, 95), (41, 96)] [0, 1, 2, 3, 4, 5, 6, 7, 8, 9, 10, 11, 12, 13, 14, 15, 16, 17, 18, 19, 20, 21, 22, 23, 24, 25, 26, 27, 28, 29, 30, 31, 32, 33, 34, 35, 36, 37, 38, 39, 40, 41] (fun i w v => match i with | 0 => v = .slice (some a4) ps.length c4 | 1 => v = .int .i64 k | 2 => v = .pointer (some (a4.add k)) | 3 => v = .slice (some ar) q2.length cr | 4 => v = .int .i64 q.length | 5 => v = .slice (some ar) q.length cr | 6 => v = .slice (some ad) ps.length pc | 7 => v = .int .i64 k | 8 => v = .pointer (some (ad.add k)) | 9 => v = .slice A' q.length c' | 10 => v = .bool true | 11 => v = .bool false | 12 => v = .bool false | 13 => v = .slice (some a4) ps.length c4 | 14 => v = .int .i64 k | 15 => v = .pointer (some (a4.add k)) | 16 => v = .slice (some ar) q2.length cr | 17 => v = .int .i64 q.length | 18 => v = .pointer (some (ar.add q.length)) | 19 => v = .int .u8 90 | 20 => v = .bool false | 21 => v = .bool false | 22 => v = .bool false | 23 => v = .slice (some a4) ps.length c4 | 24 => v = .int .i64 k | 25 => v = .pointer (some (a4.add k)) | 26 => v = .slice (some ar) q2.length cr | 27 => v = .int .i64 q.length | 28 => v = .int .i64 (m1 : Int) | 29 => v = .pointer (some (ar.add m1)) | 30 => v = .int .u8 165 | 31 => v = .bool false | 32 => v = .bool false | 33 => v = .bool false | 34 => v = .slice (some a3) ps.length c3 | 35 => v = .int .i64 k | 36 => v = .pointer (some (a3.add k)) | 37 => v = .slice Ai q.length ci | 38 => v = .int .i64 q.length | 39 => v = .int .i64 q.length | 40 => v = .bool false | 41 => v = .bool false | _ => True) (by kernel_rfl) (by kernel_rfl) (by rfl) rfl ?mono19 ?steps19 ?fin19
          case mono19 =>
            intro i w w' v h hE
            match i with
            | 0 => exact h
            | 1 => exact h
            | 2 => exact h
            | 3 => exact h
            | 4 => exact h
            | 5 => exact h
            | 6 => exact h
            | 7 => exact h
            | 8 => exact h
            | 9 => exact h
            | 10 => exact h
            | 11 => exact h
            | 12 => exact h
            | 13 => exact h
            | 14 => exact h
            | 15 => exact h
            | 16 => exact h
            | 17 => exact h
            | 18 => exact h
            | 19 => exact h
            | 20 => exact h
            | 21 => exact h
            | 22 => exact h
            | 23 => exact h
            | 24 => exact h
            | 25 => exact h
            | 26 => exact h
            | 27 => exact h
            | 28 => exact h
            | 29 => exact h
            | 30 => exact h
            | 31 => exact h
            | 32 => exact h
            | 33 => exact h
            | 34 => exact h
            | 35 => exact h
            | 36 => exact h
            | 37 => exact h
            | 38 => exact h
            | 39 => exact h
            | 40 => exact h
            | 41 => exact h
            | _ + 42 => trivial
          case steps19 =>
            refine stepE_cons ⟨_, rfl, fun a w hE hH => ?_⟩ ?_
            ·
              have e4 : a.tmps[4]? = some (.slice (some a4) ps.length c4) := hH.old 4 rfl
              exact Or.inl ⟨rfl, goodE_move _ rfl (eval_of e4) rfl⟩
            refine stepE_cons ⟨_, rfl, fun a w hE hH => ?_⟩ ?_
            ·
              have e10 : a.tmps[10]? = some (.int .i64 k) := hH.old 10 rfl
              exact Or.inl ⟨rfl, goodE_move _ rfl (eval_of e10) rfl⟩
            refine stepE_cons ⟨_, rfl, fun a w hE hH => ?_⟩ ?_
            ·
              obtain ⟨v55, e55, g55⟩ := hH.dep 0 55 rfl (by kernel_rfl)
              have q55 : v55 = .slice (some a4) ps.length c4 := g55
              subst q55
              obtain ⟨v56, e56, g56⟩ := hH.dep 1 56 rfl (by kernel_rfl)
              have q56 : v56 = .int .i64 k := g56
              subst q56
              exact Or.inl ⟨(rfl), goodE_val (.pointer (some (a4.add k))) (by simp [execOp, Act.eval, e55, e56, go_sem, b4]) rfl⟩
            refine stepE_cons ⟨_, rfl, fun a w hE hH => ?_⟩ ?_
            ·
              obtain ⟨v57, e57, g57⟩ := hH.dep 2 57 rfl (by kernel_rfl)
              have q57 : v57 = .pointer (some (a4.add k)) := g57
              subst q57
              exact Or.inl ⟨(rfl), goodE_val (.slice (some ar) q2.length cr) (by simp [execOp, Act.eval, e57, go_sem, cell_ext ((Ext.to_drew _).trans hE) H4.out]) rfl⟩
            refine stepE_cons ⟨_, rfl, fun a w hE hH => ?_⟩ ?_
            ·
              have e11 : a.tmps[11]? = some (.int .i64 q.length) := hH.old 11 rfl
              exact Or.inl ⟨rfl, goodE_move _ rfl (eval_of e11) rfl⟩
            refine stepE_cons ⟨_, rfl, fun a w hE hH => ?_⟩ ?_
            ·
              obtain ⟨v58, e58, g58⟩ := hH.dep 3 58 rfl (by kernel_rfl)
              have q58 : v58 = .slice (some ar) q2.length cr := g58
              subst q58
              obtain ⟨v59, e59, g59⟩ := hH.dep 4 59 rfl (by kernel_rfl)
              have q59 : v59 = .int .i64 q.length := g59
              subst q59
              exact Or.inl ⟨(rfl), goodE_val (.slice (some ar) q.length cr) (exec_slice rfl (by simp only [Option.map_some, Option.map_none, eval_of e58, eval_of e59]; exact HCUT.out w)) rfl⟩
            refine stepE_cons ⟨_, rfl, fun a w hE hH => ?_⟩ ?_
            ·
              have e0 : a.tmps[0]? = some (.slice (some ad) ps.length pc) := hH.old 0 rfl
              exact Or.inl ⟨rfl, goodE_move _ rfl (eval_of e0) rfl⟩
            refine stepE_cons ⟨_, rfl, fun a w hE hH => ?_⟩ ?_
            ·
              have e10 : a.tmps[10]? = some (.int .i64 k) := hH.old 10 rfl
              exact Or.inl ⟨rfl, goodE_move _ rfl (eval_of e10) rfl⟩
            refine stepE_cons ⟨_, rfl, fun a w hE hH => ?_⟩ ?_
            ·
              obtain ⟨v61, e61, g61⟩ := hH.dep 6 61 rfl (by kernel_rfl)
              have q61 : v61 = .slice (some ad) ps.length pc := g61
              subst q61
              obtain ⟨v62, e62, g62⟩ := hH.dep 7 62 rfl (by kernel_rfl)
              have q62 : v62 = .int .i64 k := g62
              subst q62
              exact Or.inl ⟨(rfl), goodE_val (.pointer (some (ad.add k))) (by simp [execOp, Act.eval, e61, e62, go_sem, b4]) rfl⟩
            refine stepE_cons ⟨_, rfl, fun a w hE hH => ?_⟩ ?_
            ·
              obtain ⟨v63, e63, g63⟩ := hH.dep 8 63 rfl (by kernel_rfl)
              have q63 : v63 = .pointer (some (ad.add k)) := g63
              subst q63
              exact Or.inl ⟨(rfl), goodE_val (.slice A' q.length c') (by simp [execOp, Act.eval, e63, go_sem, cell_ext ((Ext.to_drew _).trans hE) H0.out]) rfl⟩
            refine stepE_cons ⟨_, rfl, fun a w hE hH => ?_⟩ ?_
            ·
              obtain ⟨v60, e60, g60⟩ := hH.dep 5 60 rfl (by kernel_rfl)
              have q60 : v60 = .slice (some ar) q.length cr := g60
              subst q60
              obtain ⟨v64, e64, g64⟩ := hH.dep 9 64 rfl (by kernel_rfl)
              have q64 : v64 = .slice A' q.length c' := g64
              subst q64
              exact Or.inl ⟨(rfl), goodE_call rfl #[.slice (some ar) q.length cr, .slice A' q.length c'] (by simp [Act.eval, e60, e64]) _ Tryd.func17 (by kernel_rfl) (by kernel_rfl) ((same_calls w (some ar) A' cr c' q (HRQ.out.ext ((Ext.to_drew _).trans hE)) (HBQ.out.ext ((Ext.to_drew _).trans hE))).mono (fun e w' h => ⟨_, h.1, h.2, rfl⟩))⟩
            refine stepE_cons ⟨_, rfl, fun a w hE hH => ?_⟩ ?_
            ·
              obtain ⟨v65, e65, g65⟩ := hH.dep 10 65 rfl (by kernel_rfl)
              have q65 : v65 = .bool true := g65
              subst q65
              exact Or.inl ⟨rfl, goodE_val (.bool false) (by simp [execOp, Act.eval, e65, go_sem]) rfl⟩
            refine stepE_cons ⟨_, rfl, fun a w hE hH => ?_⟩ ?_
            ·
              obtain ⟨v66, e66, g66⟩ := hH.dep 11 66 rfl (by kernel_rfl)
              exact Or.inl ⟨rfl, goodE_move v66 rfl (eval_of e66) g66⟩
            refine stepE_cons ⟨_, rfl, fun a w hE hH => ?_⟩ ?_
            ·
              have e4 : a.tmps[4]? = some (.slice (some a4) ps.length c4) := hH.old 4 rfl
              obtain ⟨v67, e67, g67⟩ := hH.dep 12 67 rfl (by kernel_rfl)
              have q67 : v67 = .bool false := g67
              subst q67
              exact Or.inl ⟨wanted_on rfl rfl rfl e67, goodE_move _ rfl (eval_of e4) rfl⟩
            refine stepE_cons ⟨_, rfl, fun a w hE hH => ?_⟩ ?_
            ·
              have e10 : a.tmps[10]? = some (.int .i64 k) := hH.old 10 rfl
              obtain ⟨v67, e67, g67⟩ := hH.dep 12 67 rfl (by kernel_rfl)
              have q67 : v67 = .bool false := g67
              subst q67
              exact Or.inl ⟨wanted_on rfl rfl rfl e67, goodE_move _ rfl (eval_of e10) rfl⟩
            refine stepE_cons ⟨_, rfl, fun a w hE hH => ?_⟩ ?_
            ·
              obtain ⟨v68, e68, g68⟩ := hH.dep 13 68 rfl (by kernel_rfl)
              have q68 : v68 = .slice (some a4) ps.length c4 := g68
              subst q68
              obtain ⟨v69, e69, g69⟩ := hH.dep 14 69 rfl (by kernel_rfl)
              have q69 : v69 = .int .i64 k := g69
              subst q69
              obtain ⟨v67, e67, g67⟩ := hH.dep 12 67 rfl (by kernel_rfl)
              have q67 : v67 = .bool false := g67
              subst q67
              exact Or.inl ⟨(wanted_on rfl rfl rfl e67), goodE_val (.pointer (some (a4.add k))) (by simp [execOp, Act.eval, e68, e69, go_sem, b4]) rfl⟩
            refine stepE_cons ⟨_, rfl, fun a w hE hH => ?_⟩ ?_
            ·
              obtain ⟨v70, e70, g70⟩ := hH.dep 15 70 rfl (by kernel_rfl)
              have q70 : v70 = .pointer (some (a4.add k)) := g70
              subst q70
              obtain ⟨v67, e67, g67⟩ := hH.dep 12 67 rfl (by kernel_rfl)
              have q67 : v67 = .bool false := g67
              subst q67
              exact Or.inl ⟨(wanted_on rfl rfl rfl e67), goodE_val (.slice (some ar) q2.length cr) (by simp [execOp, Act.eval, e70, go_sem, cell_ext ((Ext.to_drew _).trans hE) H4.out]) rfl⟩
            refine stepE_cons ⟨_, rfl, fun a w hE hH => ?_⟩ ?_
            ·
              have e11 : a.tmps[11]? = some (.int .i64 q.length) := hH.old 11 rfl
              obtain ⟨v67, e67, g67⟩ := hH.dep 12 67 rfl (by kernel_rfl)
              have q67 : v67 = .bool false := g67
              subst q67
              exact Or.inl ⟨wanted_on rfl rfl rfl e67, goodE_move _ rfl (eval_of e11) rfl⟩
            refine stepE_cons ⟨_, rfl, fun a w hE hH => ?_⟩ ?_
            ·
              obtain ⟨v71, e71, g71⟩ := hH.dep 16 71 rfl (by kernel_rfl)
              have q71 : v71 = .slice (some ar) q2.length cr := g71
              subst q71
              obtain ⟨v72, e72, g72⟩ := hH.dep 17 72 rfl (by kernel_rfl)
              have q72 : v72 = .int .i64 q.length := g72
              subst q72
              obtain ⟨v67, e67, g67⟩ := hH.dep 12 67 rfl (by kernel_rfl)
              have q67 : v67 = .bool false := g67
              subst q67
              exact Or.inl ⟨(wanted_on rfl rfl rfl e67), goodE_val (.pointer (some (ar.add q.length))) (by simp [execOp, Act.eval, e71, e72, go_sem, b5]) rfl⟩
            refine stepE_cons ⟨_, rfl, fun a w hE hH => ?_⟩ ?_
            ·
              obtain ⟨v73, e73, g73⟩ := hH.dep 18 73 rfl (by kernel_rfl)
              have q73 : v73 = .pointer (some (ar.add q.length)) := g73
              subst q73
              obtain ⟨v67, e67, g67⟩ := hH.dep 12 67 rfl (by kernel_rfl)
              have q67 : v67 = .bool false := g67
              subst q67
              exact Or.inl ⟨(wanted_on rfl rfl rfl e67), goodE_val (.int .u8 90) (by simp [execOp, Act.eval, e73, go_sem, cell_ext ((Ext.to_drew _).trans hE) H90.out]) rfl⟩
            refine stepE_cons ⟨_, rfl, fun a w hE hH => ?_⟩ ?_
            ·
              obtain ⟨v74, e74, g74⟩ := hH.dep 19 74 rfl (by kernel_rfl)
              have q74 : v74 = .int .u8 90 := g74
              subst q74
              obtain ⟨v67, e67, g67⟩ := hH.dep 12 67 rfl (by kernel_rfl)
              have q67 : v67 = .bool false := g67
              subst q67
              exact Or.inl ⟨wanted_on rfl rfl rfl e67, goodE_val (.bool false) (by simp [execOp, Act.eval, e74, e67, go_sem]) rfl⟩
            refine stepE_cons ⟨_, rfl, fun a w hE hH => ?_⟩ ?_
            ·
              obtain ⟨v67, e67, g67⟩ := hH.dep 12 67 rfl (by kernel_rfl)
              have q67 : v67 = .bool false := g67
              subst q67
              obtain ⟨v75, e75, g75⟩ := hH.dep 20 75 rfl (by kernel_rfl)
              have q75 : v75 = .bool false := g75
              subst q75
              exact Or.inl ⟨rfl, goodE_pick _ (.bool false) rfl (eval_of e67) (by simp [Act.eval, e75, e67]) rfl⟩
            refine stepE_cons ⟨_, rfl, fun a w hE hH => ?_⟩ ?_
            ·
              obtain ⟨v76, e76, g76⟩ := hH.dep 21 76 rfl (by kernel_rfl)
              exact Or.inl ⟨rfl, goodE_move v76 rfl (eval_of e76) g76⟩
            refine stepE_cons ⟨_, rfl, fun a w hE hH => ?_⟩ ?_
            ·
              have e4 : a.tmps[4]? = some (.slice (some a4) ps.length c4) := hH.old 4 rfl
              obtain ⟨v77, e77, g77⟩ := hH.dep 22 77 rfl (by kernel_rfl)
              have q77 : v77 = .bool false := g77
              subst q77
              exact Or.inl ⟨wanted_on rfl rfl rfl e77, goodE_move _ rfl (eval_of e4) rfl⟩
            refine stepE_cons ⟨_, rfl, fun a w hE hH => ?_⟩ ?_
            ·
              have e10 : a.tmps[10]? = some (.int .i64 k) := hH.old 10 rfl
              obtain ⟨v77, e77, g77⟩ := hH.dep 22 77 rfl (by kernel_rfl)
              have q77 : v77 = .bool false := g77
              subst q77
              exact Or.inl ⟨wanted_on rfl rfl rfl e77, goodE_move _ rfl (eval_of e10) rfl⟩
            refine stepE_cons ⟨_, rfl, fun a w hE hH => ?_⟩ ?_
            ·
              obtain ⟨v78, e78, g78⟩ := hH.dep 23 78 rfl (by kernel_rfl)
              have q78 : v78 = .slice (some a4) ps.length c4 := g78
              subst q78
              obtain ⟨v79, e79, g79⟩ := hH.dep 24 79 rfl (by kernel_rfl)
              have q79 : v79 = .int .i64 k := g79
              subst q79
              obtain ⟨v77, e77, g77⟩ := hH.dep 22 77 rfl (by kernel_rfl)
              have q77 : v77 = .bool false := g77
              subst q77
              exact Or.inl ⟨(wanted_on rfl rfl rfl e77), goodE_val (.pointer (some (a4.add k))) (by simp [execOp, Act.eval, e78, e79, go_sem, b4]) rfl⟩
            refine stepE_cons ⟨_, rfl, fun a w hE hH => ?_⟩ ?_
            ·
              obtain ⟨v80, e80, g80⟩ := hH.dep 25 80 rfl (by kernel_rfl)
              have q80 : v80 = .pointer (some (a4.add k)) := g80
              subst q80
              obtain ⟨v77, e77, g77⟩ := hH.dep 22 77 rfl (by kernel_rfl)
              have q77 : v77 = .bool false := g77
              subst q77
              exact Or.inl ⟨(wanted_on rfl rfl rfl e77), goodE_val (.slice (some ar) q2.length cr) (by simp [execOp, Act.eval, e80, go_sem, cell_ext ((Ext.to_drew _).trans hE) H4.out]) rfl⟩
            refine stepE_cons ⟨_, rfl, fun a w hE hH => ?_⟩ ?_
            ·
              have e11 : a.tmps[11]? = some (.int .i64 q.length) := hH.old 11 rfl
              obtain ⟨v77, e77, g77⟩ := hH.dep 22 77 rfl (by kernel_rfl)
              have q77 : v77 = .bool false := g77
              subst q77
              exact Or.inl ⟨wanted_on rfl rfl rfl e77, goodE_move _ rfl (eval_of e11) rfl⟩
            refine stepE_cons ⟨_, rfl, fun a w hE hH => ?_⟩ ?_
            ·
              obtain ⟨v82, e82, g82⟩ := hH.dep 27 82 rfl (by kernel_rfl)
              have q82 : v82 = .int .i64 q.length := g82
              subst q82
              obtain ⟨v77, e77, g77⟩ := hH.dep 22 77 rfl (by kernel_rfl)
              have q77 : v77 = .bool false := g77
              subst q77
              exact Or.inl ⟨(wanted_on rfl rfl rfl e77), goodE_val (.int .i64 (m1 : Int)) (by simp [execOp, Act.eval, e82, go_sem]; exact HW1.out) rfl⟩
            refine stepE_cons ⟨_, rfl, fun a w hE hH => ?_⟩ ?_
            ·
              obtain ⟨v81, e81, g81⟩ := hH.dep 26 81 rfl (by kernel_rfl)
              have q81 : v81 = .slice (some ar) q2.length cr := g81
              subst q81
              obtain ⟨v83, e83, g83⟩ := hH.dep 28 83 rfl (by kernel_rfl)
              have q83 : v83 = .int .i64 (m1 : Int) := g83
              subst q83
              obtain ⟨v77, e77, g77⟩ := hH.dep 22 77 rfl (by kernel_rfl)
              have q77 : v77 = .bool false := g77
              subst q77
              exact Or.inl ⟨(wanted_on rfl rfl rfl e77), goodE_val (.pointer (some (ar.add m1))) (by simp [execOp, Act.eval, e81, e83, go_sem, b6]) rfl⟩
            refine stepE_cons ⟨_, rfl, fun a w hE hH => ?_⟩ ?_
            ·
              obtain ⟨v84, e84, g84⟩ := hH.dep 29 84 rfl (by kernel_rfl)
              have q84 : v84 = .pointer (some (ar.add m1)) := g84
              subst q84
              obtain ⟨v77, e77, g77⟩ := hH.dep 22 77 rfl (by kernel_rfl)
              have q77 : v77 = .bool false := g77
              subst q77
              exact Or.inl ⟨(wanted_on rfl rfl rfl e77), goodE_val (.int .u8 165) (by simp [execOp, Act.eval, e84, go_sem, cell_ext ((Ext.to_drew _).trans hE) H165.out]) rfl⟩
            refine stepE_cons ⟨_, rfl, fun a w hE hH => ?_⟩ ?_
            ·
              obtain ⟨v85, e85, g85⟩ := hH.dep 30 85 rfl (by kernel_rfl)
              have q85 : v85 = .int .u8 165 := g85
              subst q85
              obtain ⟨v77, e77, g77⟩ := hH.dep 22 77 rfl (by kernel_rfl)
              have q77 : v77 = .bool false := g77
              subst q77
              exact Or.inl ⟨wanted_on rfl rfl rfl e77, goodE_val (.bool false) (by simp [execOp, Act.eval, e77, e85, go_sem]) rfl⟩
            refine stepE_cons ⟨_, rfl, fun a w hE hH => ?_⟩ ?_
            ·
              obtain ⟨v77, e77, g77⟩ := hH.dep 22 77 rfl (by kernel_rfl)
              have q77 : v77 = .bool false := g77
              subst q77
              obtain ⟨v86, e86, g86⟩ := hH.dep 31 86 rfl (by kernel_rfl)
              have q86 : v86 = .bool false := g86
              subst q86
              exact Or.inl ⟨rfl, goodE_pick _ (.bool false) rfl (eval_of e77) (by simp [Act.eval, e77, e86]) rfl⟩
            refine stepE_cons ⟨_, rfl, fun a w hE hH => ?_⟩ ?_
            ·
              obtain ⟨v87, e87, g87⟩ := hH.dep 32 87 rfl (by kernel_rfl)
              exact Or.inl ⟨rfl, goodE_move v87 rfl (eval_of e87) g87⟩
            refine stepE_cons ⟨_, rfl, fun a w hE hH => ?_⟩ ?_
            ·
              have e3 : a.tmps[3]? = some (.slice (some a3) ps.length c3) := hH.old 3 rfl
              obtain ⟨v88, e88, g88⟩ := hH.dep 33 88 rfl (by kernel_rfl)
              have q88 : v88 = .bool false := g88
              subst q88
              exact Or.inl ⟨wanted_on rfl rfl rfl e88, goodE_move _ rfl (eval_of e3) rfl⟩
            refine stepE_cons ⟨_, rfl, fun a w hE hH => ?_⟩ ?_
            ·
              have e10 : a.tmps[10]? = some (.int .i64 k) := hH.old 10 rfl
              obtain ⟨v88, e88, g88⟩ := hH.dep 33 88 rfl (by kernel_rfl)
              have q88 : v88 = .bool false := g88
              subst q88
              exact Or.inl ⟨wanted_on rfl rfl rfl e88, goodE_move _ rfl (eval_of e10) rfl⟩
            refine stepE_cons ⟨_, rfl, fun a w hE hH => ?_⟩ ?_
            ·
              obtain ⟨v89, e89, g89⟩ := hH.dep 34 89 rfl (by kernel_rfl)
              have q89 : v89 = .slice (some a3) ps.length c3 := g89
              subst q89
              obtain ⟨v90, e90, g90⟩ := hH.dep 35 90 rfl (by kernel_rfl)
              have q90 : v90 = .int .i64 k := g90
              subst q90
              obtain ⟨v88, e88, g88⟩ := hH.dep 33 88 rfl (by kernel_rfl)
              have q88 : v88 = .bool false := g88
              subst q88
              exact Or.inl ⟨(wanted_on rfl rfl rfl e88), goodE_val (.pointer (some (a3.add k))) (by simp [execOp, Act.eval, e89, e90, go_sem, b4]) rfl⟩
            refine stepE_cons ⟨_, rfl, fun a w hE hH => ?_⟩ ?_
            ·
              obtain ⟨v91, e91, g91⟩ := hH.dep 36 91 rfl (by kernel_rfl)
              have q91 : v91 = .pointer (some (a3.add k)) := g91
              subst q91
              obtain ⟨v88, e88, g88⟩ := hH.dep 33 88 rfl (by kernel_rfl)
              have q88 : v88 = .bool false := g88
              subst q88
              exact Or.inl ⟨(wanted_on rfl rfl rfl e88), goodE_val (.slice Ai q.length ci) (by simp [execOp, Act.eval, e91, go_sem, cell_ext ((Ext.to_drew _).trans hE) H3.out]) rfl⟩
            refine stepE_cons ⟨_, rfl, fun a w hE hH => ?_⟩ ?_
            ·
              obtain ⟨v92, e92, g92⟩ := hH.dep 37 92 rfl (by kernel_rfl)
              have q92 : v92 = .slice Ai q.length ci := g92
              subst q92
              obtain ⟨v88, e88, g88⟩ := hH.dep 33 88 rfl (by kernel_rfl)
              have q88 : v88 = .bool false := g88
              subst q88
              exact Or.inl ⟨wanted_on rfl rfl rfl e88, goodE_val (.int .i64 q.length) (by simp [execOp, Act.eval, e88, e92, go_sem]) rfl⟩
            refine stepE_cons ⟨_, rfl, fun a w hE hH => ?_⟩ ?_
            ·
              have e11 : a.tmps[11]? = some (.int .i64 q.length) := hH.old 11 rfl
              obtain ⟨v88, e88, g88⟩ := hH.dep 33 88 rfl (by kernel_rfl)
              have q88 : v88 = .bool false := g88
              subst q88
              exact Or.inl ⟨wanted_on rfl rfl rfl e88, goodE_move _ rfl (eval_of e11) rfl⟩
            refine stepE_cons ⟨_, rfl, fun a w hE hH => ?_⟩ ?_
            ·
              obtain ⟨v93, e93, g93⟩ := hH.dep 38 93 rfl (by kernel_rfl)
              have q93 : v93 = .int .i64 q.length := g93
              subst q93
              obtain ⟨v94, e94, g94⟩ := hH.dep 39 94 rfl (by kernel_rfl)
              have q94 : v94 = .int .i64 q.length := g94
              subst q94
              obtain ⟨v88, e88, g88⟩ := hH.dep 33 88 rfl (by kernel_rfl)
              have q88 : v88 = .bool false := g88
              subst q88
              exact Or.inl ⟨wanted_on rfl rfl rfl e88, goodE_val (.bool false) (by simp [execOp, Act.eval, e88, e93, e94, go_sem]) rfl⟩
            refine stepE_cons ⟨_, rfl, fun a w hE hH => ?_⟩ ?_
            ·
              obtain ⟨v88, e88, g88⟩ := hH.dep 33 88 rfl (by kernel_rfl)
              have q88 : v88 = .bool false := g88
              subst q88
              obtain ⟨v95, e95, g95⟩ := hH.dep 40 95 rfl (by kernel_rfl)
              have q95 : v95 = .bool false := g95
              subst q95
              exact Or.inl ⟨rfl, goodE_pick _ (.bool false) rfl (eval_of e88) (by simp [Act.eval, e88, e95]) rfl⟩
            exact stepE_nil
          rintro vals wz hE hV
          have k96 : vals 41 = .bool false := hV 41 (by simp) rfl
          simp only [List.map_cons, List.map_nil, putAll, Act.put, List.setIfInBounds_toArray, List.set_cons_zero, List.set_cons_succ, k96]

          have HE8 := Aside0.mk (HE.out.trans ((Ext.to_drew _).trans hE))
          have HX8 := Aside0.mk (HX.out.ext ((Ext.to_drew _).trans hE))
          clear hE hV k96 hcell
          go_wp2
          go_roundw
          case rel => exact ⟨k + 1, by omega, by simp, HE8.out, HX8.out⟩
          case measure => simp [intOf]; omega
        · obtain rfl : k = ps.length := by omega
          clear hE hX
          go_wp2_with fail
          go_ret
          exact ⟨rfl, HE.out⟩
end Go.Proofs.YtnkhhnfmijljbaaDoor
