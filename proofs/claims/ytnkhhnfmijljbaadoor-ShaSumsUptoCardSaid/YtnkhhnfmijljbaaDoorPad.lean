/- cairnref02.Padded: the padded bytes, in a row of the call's own. -/
import Derived.Test.YtnkhhnfmijljbaaDoorMix
import Derived.Test.YtnkhhnfmijljbaaDoorMPc
set_option linter.unusedVariables false
set_option linter.unusedSimpArgs false
namespace Go.Proofs.YtnkhhnfmijljbaaDoor
open Go.RowKit Go.Proofs.YtnkhhnfmijljbaaDoorW.PrintWords Go.Proofs.YtnkhhnfmijljbaaDoorW.PrintLast Go.Proofs.YtnkhhnfmijljbaaDoorW.PrintMore
open Extern.Stop (cell)

section
variable {P : Program} {ops : Array Oper} {rest : List Oper} {o : Oper} {a : Act} {Q : Exit → Act → World → Prop}
/-- append(v, y) on a row of the call's own -/
theorem ob_push {w W : World} (hgd : o.guard = none) (s x : Operand) (v : Value) (al : List UInt8) (y : UInt8) (ho : o.op = .call { callee := .builtin .append, args := #[s, x], argTypes := #[24, 24] })
    (hs : a.eval s = v) (hx : a.eval x = .slice (some ⟨W.heap.size, 0, none⟩) 1 1) (HO : Ob w.heap.size W v al) (hE : Ext w W) (hl : al.length < 140737488355328)
    (h : ∀ v1 w1, Ob w.heap.size w1 v1 (al ++ [y]) → Ext w w1 → wpList Tryd.prog ops Q rest (a.put o.dst v1) w1) :
    wpList Tryd.prog ops Q (o :: rest) a (W.alloc (.cells #[.int .u8 (n8 y)] 5)) :=
  print_append_num (w0 := w) w.heap.size hgd s x 24 5 .u8 1 ho Tryd.underlying24 info5 (by omega) v (ints al) (n8 y) hs hx HO hE hE.size (by rw [ints_length]; omega)
    (fun v1 w1 hO hB _ _ => h v1 w1 (by rw [show ints al ++ [n8 y] = ints (al ++ [y]) by simp [ints, n8]] at hO; exact hO) hB)
/-- append(v, ys...) -/
theorem ob_row {w W : World} (hgd : o.guard = none) (s x : Operand) (v : Value) (al ys : List UInt8) (A : Option Addr) (c : Nat) (ho : o.op = .call { callee := .builtin .append, args := #[s, x], argTypes := #[24, 24] })
    (hs : a.eval s = v) (hx : a.eval x = .slice A ys.length c) (HO : Ob w.heap.size W v al) (hy : Bs W A ys.length ys) (hE : Ext w W) (hl : al.length + ys.length ≤ 140737488355328)
    (h : ∀ v1 w1, Ob w.heap.size w1 v1 (al ++ ys) → Ext w w1 → wpList Tryd.prog ops Q rest (a.put o.dst v1) w1) :
    wpList Tryd.prog ops Q (o :: rest) a W :=
  print_append_row (w0 := w) w.heap.size hgd s x 24 5 .u8 1 ho Tryd.underlying24 info5 (by omega) v (ints al) (ints ys) A ys.length c hs hx HO hy.reads hE hE.size (by rw [ints_length]; omega)
    (fun v1 w1 hO hB _ _ => h v1 w1 (by rw [show ints al ++ ints ys = ints (al ++ ys) by simp [ints]] at hO; exact hO) hB)
end
def lenV : Value → Nat
  | .slice _ n _ => n
  | _ => 0
theorem Ob.lenV {B : Nat} {w : World} {v : Value} {al : List UInt8} (h : Ob B w v al) : lenV v = al.length := by
  obtain ⟨A, c, rfl, _⟩ := h.open
  rfl
theorem be64_take (n j : Nat) (h : j < 8) : (Spec.be64 n).take (j + 1) = (Spec.be64 n).take j ++ [UInt8.ofNat (n >>> (56 - 8 * j))] := by
  match j, h with
  | 0, _ | 1, _ | 2, _ | 3, _ | 4, _ | 5, _ | 6, _ | 7, _ => rfl
set_option maxHeartbeats 2000000 in
set_option maxRecDepth 100000 in
theorem padded_calls (w : World) (A : Option Addr) (c : Nat) (bs : List UInt8) (hx : Bs w A bs.length bs) (hc : bs.length ≤ c) (hl : bs.length ≤ 100000000000000) :
    Calls Tryd.prog 33 #[.slice A bs.length c] w (fun e w' => ∃ v, e = .returned v ∧ Ob w.heap.size w' v (Spec.padded bs) ∧ Ext w w') := by
  have HX := Aside0.mk hx
  clear hx
  go_enter Tryd.func33, Tryd.ntmps33
  go_wp2_with (with_reducible refine gate_dst (N := 8) rfl ?_; refine Aside0.out ?_)
  refine Aside0.mk ?_
  refine ob_row (w := w) rfl _ _ (.slice (some ⟨w.heap.size, 0, none⟩) 0 0) [] bs A c rfl rfl rfl (Ob.made w) (HX.out.ext ((Ext.refl w).alloc _)) ((Ext.refl w).alloc _) (by simp; omega) ?_
  intro v1 w1 hO1 hE1
  have HO1 := Aside0.mk (show Ob w.heap.size w1 v1 bs from hO1)
  have HE1 := Aside0.mk hE1
  clear hO1 hE1
  go_wp2_with (with_reducible refine gate_dst (N := 11) rfl ?_; refine Aside0.out ?_)
  refine Aside0.mk ?_
  refine ob_push (w := w) rfl _ _ v1 bs 128 rfl rfl rfl HO1.out HE1.out (by omega) ?_
  intro v2 w2 hO2 hE2
  have HO2 := Aside0.mk hO2
  have HE2 := Aside0.mk hE2
  clear hO2 hE2
  go_wp2_with fail
  go_loopw [3] (fun v wr => ∃ z, z ≤ Spec.zerosFor bs.length ∧ Ob w.heap.size wr v (bs ++ [0x80] ++ List.replicate z 0) ∧ Ext w wr) (fun v _ => bs.length + 1 + Spec.zerosFor bs.length - lenV v)
  case atStart => exact ⟨0, by omega, by simpa using HO2.out, HE2.out⟩
  case round =>
    obtain ⟨z, hz, hO, hE⟩ := hrel
    obtain ⟨q, hq⟩ : ∃ q, q = bs ++ [0x80] ++ List.replicate z 0 := ⟨_, rfl⟩
    have hql : q.length = bs.length + 1 + z := by rw [hq]; simp; omega
    rw [← hq] at hO
    have hlv := hO.lenV
    obtain ⟨A', c', hv, hc', hb'⟩ := hO.open
    have hzf : Spec.zerosFor bs.length = (119 - bs.length % 64) % 64 := rfl
    have HO := Aside0.mk hO
    have HE := Aside0.mk hE
    have HLV := Aside0.mk hlv
    have HQ := Aside0.mk hq
    have HQL := Aside0.mk hql
    by_cases hlt : z < Spec.zerosFor bs.length
    · have hn56 : ¬ ((q.length : Int) % 64 = 56) := by omega
      have HZF := Aside0.mk hzf
      subst hv
      clear hO hE hlv hq hzf hb' hql
      go_wp2_with (with_reducible refine gate_dst (N := 18) rfl ?_; refine Aside0.out ?_)
      refine Aside0.mk ?_
      refine ob_push (w := w) rfl _ _ (.slice A' q.length c') q 0 rfl rfl rfl HO.out HE.out (by have := HZF.out; have := HQL.out; omega) ?_
      intro v3 w3 hO3 hE3
      have HL3 := Aside0.mk hO3.lenV
      have HO3 := Aside0.mk hO3
      have HE3 := Aside0.mk hE3
      clear hO3 hE3
      go_wp2
      go_roundw
      case rel =>
        refine ⟨z + 1, by omega, ?_, HE3.out⟩
        have h1 := HO3.out
        rw [HQ.out, List.append_assoc (bs ++ [0x80]), ← List.replicate_succ'] at h1
        exact h1
      case measure => rw [HLV.out, HL3.out, List.length_append, HQL.out]; simp; omega
    · have hn56 : (q.length : Int) % 64 = 56 := by omega
      obtain rfl : z = Spec.zerosFor bs.length := by omega
      have HZF := Aside0.mk hzf
      subst hv
      clear hO hE hlv hq hzf hb' hql
      have h8 : (8 * (bs.length : Int)) = ((8 * bs.length : Nat) : Int) := by simp
      obtain ⟨m, hm⟩ : ∃ m, m = 8 * bs.length := ⟨_, rfl⟩
      go_wp2_with fail
      clear hn56
      go_loopw [3, 5] (fun v i wr => ∃ j : Nat, j ≤ 8 ∧ i = .int .i64 (56 - 8 * (j : Int)) ∧ Ob w.heap.size wr v (q ++ (Spec.be64 m).take j) ∧ Ext w wr) (fun _ i _ => (intOf i + 8).toNat)
      case atStart => exact ⟨0, by omega, by simp, by simpa using HO.out, HE.out⟩
      case round =>
        obtain ⟨j, hj, rfl, hO, hE⟩ := hrel
        have hOl := hO.lenV
        have HO5 := Aside0.mk hO
        have HE5 := Aside0.mk hE
        by_cases hj8 : j < 8
        · have b1 : (0 : Int) ≤ 56 - 8 * (j : Int) := by omega
          have b2 : ¬ ((56 : Int) - 8 * (j : Int) < 0) := by omega
          clear hO hE hOl
          go_wp2_with (with_reducible refine gate_dst (N := 33) rfl ?_; refine Aside0.out ?_)
          refine Aside0.mk ?_
          rw [show ((bs.length : Int) * 8 / 2 ^ (56 - 8 * j) % 256) = n8 (UInt8.ofNat (m >>> (56 - 8 * j))) by rw [← byteOf, hm]; push_cast; rw [Int.mul_comm]]
          refine ob_push (w := w) rfl _ _ _ (q ++ (Spec.be64 m).take j) (UInt8.ofNat (m >>> (56 - 8 * j))) rfl rfl rfl HO5.out HE5.out (by have := HZF.out; have := HQL.out; simp; omega) ?_
          intro v3 w3 hO3 hE3
          rw [List.append_assoc, ← be64_take m j hj8] at hO3
          have HO3 := Aside0.mk hO3
          have HE3 := Aside0.mk hE3
          clear hO3 hE3
          go_wp2
          go_roundw
          case rel => exact ⟨j + 1, by omega, by push_cast; congr 1; omega, HO3.out, HE3.out⟩
          case measure => simp [intOf]; omega
        · obtain rfl : j = 8 := by omega
          clear hO hE hOl
          have HM := Aside0.mk hm
          go_wp2_with fail
          go_ret
          refine ⟨_, rfl, ?_, HE5.out⟩
          have h1 := HO5.out
          rw [HQ.out, HM.out, List.take_of_length_le (by simp [Spec.be64])] at h1
          exact h1
end Go.Proofs.YtnkhhnfmijljbaaDoor
