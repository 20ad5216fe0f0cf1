/- cairnlaw02.rest: the rest, never negative. -/
import Derived.Test.YtnkhhnfmijljbaaDoorAwk
set_option linter.unusedVariables false
set_option linter.unusedSimpArgs false
namespace Go.Proofs.YtnkhhnfmijljbaaDoor
open Go.RowKit Go.Proofs.YtnkhhnfmijljbaaDoorW.PrintWords Go.Proofs.YtnkhhnfmijljbaaDoorW.PrintLast Go.Proofs.YtnkhhnfmijljbaaDoorW.PrintMore

theorem rest_calls (n m : Int) (w : World) (hn : -9223372036854775808 ≤ n ∧ n ≤ 9223372036854775807) (h0 : 0 < m) (hm : m ≤ 4611686018427387904) :
    Calls Tryd.prog 19 #[.int .i64 n, .int .i64 m] w (fun e w' => e = .returned (.int .i64 (n % m)) ∧ w' = w) := by
  have hm0 : ¬ m = 0 := by omega
  obtain ⟨t, ht⟩ : ∃ t, t = n.tmod m := ⟨_, rfl⟩
  have ht1 : -m < t ∧ t < m := by
    rw [ht]
    have h1 := Int.tmod_lt_of_pos n h0
    have h2 := Int.lt_tmod_of_pos n h0
    omega
  have hr : (t + m).tmod m = n % m := by
    rw [Int.tmod_eq_emod_of_nonneg (by omega), Int.add_emod_right, ht]
    have h3 := Int.tmod_def n m
    rw [h3, Int.sub_emod, Int.mul_emod_right, Int.sub_zero, Int.emod_emod]
  have HR := Aside0.mk hr
  go_enter Tryd.func19, Tryd.ntmps19
  go_wp2
  go_ret
  have e : (n.tmod m + m) % m = n % m := by
    have h := HR.out
    rw [Int.tmod_eq_emod_of_nonneg (by omega), ht] at h
    exact h
  exact ⟨by show Ending.returned (Value.int .i64 ((n.tmod m + m) % m)) = _; rw [e], rfl⟩
end Go.Proofs.YtnkhhnfmijljbaaDoor
