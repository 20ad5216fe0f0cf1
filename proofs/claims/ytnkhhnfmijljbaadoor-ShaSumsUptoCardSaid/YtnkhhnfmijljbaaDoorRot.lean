/- Words of 32 bits: the model's arithmetic on them is UInt32's; the contracts of rotR and turned. -/
import Derived.Test.YtnkhhnfmijljbaaDoorKit
import Derived.Test.YtnkhhnfmijljbaaDoorSpec
import Derived.StillTailTactics
set_option linter.unusedVariables false
set_option linter.unusedSimpArgs false
namespace Go.Proofs.YtnkhhnfmijljbaaDoor
open Go.RowKit
/-- a word's number; a byte's -/
def n32 (x : UInt32) : Int := x.toNat
def n8 (x : UInt8) : Int := x.toNat
/-- a word -/
def u (x : UInt32) : Value := .int .u32 (n32 x)
theorem bits_u32_xor (x y : UInt32) : bits .xor .u32 (n32 x) (n32 y) = n32 (x ^^^ y) := by
  have hx := x.toNat_lt
  have hy := y.toNat_lt
  show IntKind.u32.wrap (((BitVec.ofInt 32 (x.toNat : Int) ^^^ BitVec.ofInt 32 (y.toNat : Int)) : BitVec 32).toNat : Int) = ((x ^^^ y).toNat : Int)
  rw [BitVec.ofInt_natCast, BitVec.ofInt_natCast, BitVec.toNat_xor, BitVec.toNat_ofNat, BitVec.toNat_ofNat, IntKind.wrap_u32, UInt32.toNat_xor, Nat.mod_eq_of_lt hx, Nat.mod_eq_of_lt hy]
  have := Nat.xor_lt_two_pow (n := 32) hx hy
  omega
theorem bits_u32_or (x y : UInt32) : bits .or .u32 (n32 x) (n32 y) = n32 (x ||| y) := by
  have hx := x.toNat_lt
  have hy := y.toNat_lt
  show IntKind.u32.wrap (((BitVec.ofInt 32 (x.toNat : Int) ||| BitVec.ofInt 32 (y.toNat : Int)) : BitVec 32).toNat : Int) = ((x ||| y).toNat : Int)
  rw [BitVec.ofInt_natCast, BitVec.ofInt_natCast, BitVec.toNat_or, BitVec.toNat_ofNat, BitVec.toNat_ofNat, IntKind.wrap_u32, UInt32.toNat_or, Nat.mod_eq_of_lt hx, Nat.mod_eq_of_lt hy]
  have := Nat.or_lt_two_pow (n := 32) hx hy
  omega
theorem bits_u32_and (x y : UInt32) : bits .and .u32 (n32 x) (n32 y) = n32 (x &&& y) := by
  have hx := x.toNat_lt
  have hy := y.toNat_lt
  show IntKind.u32.wrap (((BitVec.ofInt 32 (x.toNat : Int) &&& BitVec.ofInt 32 (y.toNat : Int)) : BitVec 32).toNat : Int) = ((x &&& y).toNat : Int)
  rw [BitVec.ofInt_natCast, BitVec.ofInt_natCast, BitVec.toNat_and, BitVec.toNat_ofNat, BitVec.toNat_ofNat, IntKind.wrap_u32, UInt32.toNat_and, Nat.mod_eq_of_lt hx, Nat.mod_eq_of_lt hy]
  have := Nat.and_lt_two_pow (n := 32) x.toNat hy
  omega
theorem u32_shr (x : UInt32) (n : Nat) (h : n < 32) : n32 x / 2 ^ n = n32 (x >>> UInt32.ofNat n) := by
  unfold n32
  rw [UInt32.toNat_shiftRight, UInt32.toNat_ofNat', show n % 2 ^ 32 % 32 = n by omega, Nat.shiftRight_eq_div_pow]
  push_cast
  rfl
theorem u32_shl (x : UInt32) (n : Nat) (h : n < 32) : n32 x * 2 ^ n % 4294967296 = n32 (x <<< UInt32.ofNat n) := by
  unfold n32
  rw [UInt32.toNat_shiftLeft, UInt32.toNat_ofNat', show n % 2 ^ 32 % 32 = n by omega, Nat.shiftLeft_eq, Int.natCast_emod, Int.natCast_mul, Int.natCast_pow]
  rfl
theorem u32_add (x y : UInt32) : (n32 x + n32 y) % (4294967296 : Int) = n32 (x + y) := by
  unfold n32
  rw [UInt32.toNat_add, Int.natCast_emod, Int.natCast_add]
  rfl
theorem u32_add4 (a b c d : UInt32) : (n32 a + n32 b + n32 c + n32 d) % (4294967296 : Int) = n32 (a + b + c + d) := by
  have h1 := u32_add a b
  have h2 := u32_add (a + b) c
  have h3 := u32_add (a + b + c) d
  omega
theorem n32_range (x : UInt32) : 0 ≤ n32 x ∧ n32 x < 4294967296 := by
  have := x.toNat_lt
  unfold n32; omega
theorem n8_range (x : UInt8) : 0 ≤ n8 x ∧ n8 x < 256 := by
  have := x.toNat_lt
  unfold n8; omega
theorem u32_shr3 (x : UInt32) : n32 x / (8 : Int) = n32 (x >>> 3) := u32_shr x 3 (by omega)
theorem u32_shr10 (x : UInt32) : n32 x / (1024 : Int) = n32 (x >>> 10) := u32_shr x 10 (by omega)
theorem u8_conv (x : UInt8) : n8 x % (4294967296 : Int) = n32 x.toUInt32 := by
  have := x.toNat_lt
  unfold n8 n32
  rw [UInt8.toNat_toUInt32]; omega
theorem u32_shl24 (x : UInt32) : n32 x * (16777216 : Int) % (4294967296 : Int) = n32 (x <<< 24) := u32_shl x 24 (by omega)
theorem u32_shl16 (x : UInt32) : n32 x * (65536 : Int) % (4294967296 : Int) = n32 (x <<< 16) := u32_shl x 16 (by omega)
theorem u32_shl8 (x : UInt32) : n32 x * (256 : Int) % (4294967296 : Int) = n32 (x <<< 8) := u32_shl x 8 (by omega)
theorem u32_not (x : UInt32) : bits .xor .u32 (n32 x) (4294967295 : Int) = n32 (~~~x) := by
  have h := bits_u32_xor x 4294967295
  rw [show n32 (4294967295 : UInt32) = 4294967295 from rfl] at h
  rw [h, show (4294967295 : UInt32) = -1 from rfl, UInt32.xor_neg_one]
theorem u32_not' (x : UInt32) : bits .xor .u32 (4294967295 : Int) (n32 x) = n32 (~~~x) := by
  have h := bits_u32_xor 4294967295 x
  rw [show n32 (4294967295 : UInt32) = 4294967295 from rfl] at h
  rw [h, show (4294967295 : UInt32) = -1 from rfl, UInt32.neg_one_xor]

theorem u32_notm (x : UInt32) : bits .xor .u32 IntKind.u32.max (n32 x) = n32 (~~~x) := u32_not' x

theorem rotR_calls (x : UInt32) (n : Nat) (h1 : 0 < n) (h2 : n < 32) (w : World) : Calls Tryd.prog 43 #[u x, .int .u64 n] w (fun e w' => e = .returned (u (Spec.rr x n)) ∧ w' = w) := by
  unfold u
  go_enter Tryd.func43, Tryd.ntmps43
  go_wp2
  rw [u32_shr x n h2, u32_shl x (32 - n) (by omega), bits_u32_or]
  go_ret
  exact ⟨rfl, rfl⟩
theorem call2 (x : UInt32) (w : World) : Calls Tryd.prog 43 #[.int .u32 (n32 x), .int .u64 2] w (fun e w' => e = .returned (.int .u32 (n32 (Spec.rr x 2))) ∧ w' = w) := rotR_calls x 2 (by omega) (by omega) w
theorem call6 (x : UInt32) (w : World) : Calls Tryd.prog 43 #[.int .u32 (n32 x), .int .u64 6] w (fun e w' => e = .returned (.int .u32 (n32 (Spec.rr x 6))) ∧ w' = w) := rotR_calls x 6 (by omega) (by omega) w
theorem call7 (x : UInt32) (w : World) : Calls Tryd.prog 43 #[.int .u32 (n32 x), .int .u64 7] w (fun e w' => e = .returned (.int .u32 (n32 (Spec.rr x 7))) ∧ w' = w) := rotR_calls x 7 (by omega) (by omega) w
theorem call11 (x : UInt32) (w : World) : Calls Tryd.prog 43 #[.int .u32 (n32 x), .int .u64 11] w (fun e w' => e = .returned (.int .u32 (n32 (Spec.rr x 11))) ∧ w' = w) := rotR_calls x 11 (by omega) (by omega) w
theorem call13 (x : UInt32) (w : World) : Calls Tryd.prog 43 #[.int .u32 (n32 x), .int .u64 13] w (fun e w' => e = .returned (.int .u32 (n32 (Spec.rr x 13))) ∧ w' = w) := rotR_calls x 13 (by omega) (by omega) w
theorem call17 (x : UInt32) (w : World) : Calls Tryd.prog 43 #[.int .u32 (n32 x), .int .u64 17] w (fun e w' => e = .returned (.int .u32 (n32 (Spec.rr x 17))) ∧ w' = w) := rotR_calls x 17 (by omega) (by omega) w
theorem call18 (x : UInt32) (w : World) : Calls Tryd.prog 43 #[.int .u32 (n32 x), .int .u64 18] w (fun e w' => e = .returned (.int .u32 (n32 (Spec.rr x 18))) ∧ w' = w) := rotR_calls x 18 (by omega) (by omega) w
theorem call19 (x : UInt32) (w : World) : Calls Tryd.prog 43 #[.int .u32 (n32 x), .int .u64 19] w (fun e w' => e = .returned (.int .u32 (n32 (Spec.rr x 19))) ∧ w' = w) := rotR_calls x 19 (by omega) (by omega) w
theorem call22 (x : UInt32) (w : World) : Calls Tryd.prog 43 #[.int .u32 (n32 x), .int .u64 22] w (fun e w' => e = .returned (.int .u32 (n32 (Spec.rr x 22))) ∧ w' = w) := rotR_calls x 22 (by omega) (by omega) w
theorem call25 (x : UInt32) (w : World) : Calls Tryd.prog 43 #[.int .u32 (n32 x), .int .u64 25] w (fun e w' => e = .returned (.int .u32 (n32 (Spec.rr x 25))) ∧ w' = w) := rotR_calls x 25 (by omega) (by omega) w
theorem rot_val (x : UInt32) (n : Nat) (h2 : n < 32) (h1 : 0 < n) : bits .or .u32 (n32 x / 2 ^ n) (n32 x * 2 ^ (32 - n) % 4294967296) = n32 (Spec.rr x n) := by
  rw [u32_shr x n h2, u32_shl x (32 - n) (by omega), bits_u32_or]; rfl
theorem rot_val' (x : UInt32) (n : Nat) (p q : Int) (h2 : n < 32) (h1 : 0 < n) (hp : p = 2 ^ n) (hq : q = 2 ^ (32 - n)) : bits .or .u32 (n32 x / p) (n32 x * q % 4294967296) = n32 (Spec.rr x n) := by
  subst hp; subst hq; exact rot_val x n h2 h1
theorem rot2 (x : UInt32) : bits .or .u32 (n32 x / (4 : Int)) (n32 x * (1073741824 : Int) % (4294967296 : Int)) = n32 (Spec.rr x 2) := rot_val' x 2 _ _ (by omega) (by omega) (by decide) (by decide)
theorem rot6 (x : UInt32) : bits .or .u32 (n32 x / (64 : Int)) (n32 x * (67108864 : Int) % (4294967296 : Int)) = n32 (Spec.rr x 6) := rot_val' x 6 _ _ (by omega) (by omega) (by decide) (by decide)
theorem rot7 (x : UInt32) : bits .or .u32 (n32 x / (128 : Int)) (n32 x * (33554432 : Int) % (4294967296 : Int)) = n32 (Spec.rr x 7) := rot_val' x 7 _ _ (by omega) (by omega) (by decide) (by decide)
theorem rot11 (x : UInt32) : bits .or .u32 (n32 x / (2048 : Int)) (n32 x * (2097152 : Int) % (4294967296 : Int)) = n32 (Spec.rr x 11) := rot_val' x 11 _ _ (by omega) (by omega) (by decide) (by decide)
theorem rot13 (x : UInt32) : bits .or .u32 (n32 x / (8192 : Int)) (n32 x * (524288 : Int) % (4294967296 : Int)) = n32 (Spec.rr x 13) := rot_val' x 13 _ _ (by omega) (by omega) (by decide) (by decide)
theorem rot17 (x : UInt32) : bits .or .u32 (n32 x / (131072 : Int)) (n32 x * (32768 : Int) % (4294967296 : Int)) = n32 (Spec.rr x 17) := rot_val' x 17 _ _ (by omega) (by omega) (by decide) (by decide)
theorem rot18 (x : UInt32) : bits .or .u32 (n32 x / (262144 : Int)) (n32 x * (16384 : Int) % (4294967296 : Int)) = n32 (Spec.rr x 18) := rot_val' x 18 _ _ (by omega) (by omega) (by decide) (by decide)
theorem rot19 (x : UInt32) : bits .or .u32 (n32 x / (524288 : Int)) (n32 x * (8192 : Int) % (4294967296 : Int)) = n32 (Spec.rr x 19) := rot_val' x 19 _ _ (by omega) (by omega) (by decide) (by decide)
theorem rot22 (x : UInt32) : bits .or .u32 (n32 x / (4194304 : Int)) (n32 x * (1024 : Int) % (4294967296 : Int)) = n32 (Spec.rr x 22) := rot_val' x 22 _ _ (by omega) (by omega) (by decide) (by decide)
theorem rot25 (x : UInt32) : bits .or .u32 (n32 x / (33554432 : Int)) (n32 x * (128 : Int) % (4294967296 : Int)) = n32 (Spec.rr x 25) := rot_val' x 25 _ _ (by omega) (by omega) (by decide) (by decide)
set_option maxHeartbeats 1000000 in
theorem turned_calls (x : UInt32) (n : Nat) (h : n ∈ [2, 6, 7, 11, 13, 17, 18, 19, 22, 25]) (w : World) : Calls Tryd.prog 42 #[u x, .int .i64 n] w (fun e w' => e = .returned (u (Spec.rr x n)) ∧ ∃ m, w' = w.drewN m) := by
  unfold u
  simp only [List.mem_cons, List.not_mem_nil, or_false] at h
  have H := rot_val' x n (2 ^ n) (2 ^ (32 - n)) (by omega) (by omega) rfl rfl
  rcases h with rfl | rfl | rfl | rfl | rfl | rfl | rfl | rfl | rfl | rfl
  all_goals
    simp only [Int.cast_ofNat_Int]
    simp only [Nat.reduceSub, Int.reducePow] at H
    generalize Spec.rr x _ = y at H ⊢
    go_enter Tryd.func42, Tryd.ntmps42
    go_wp2
    go_quiet (fail)
    go_wp2
    go_ret
    exact ⟨rfl, _, rfl⟩
end Go.Proofs.YtnkhhnfmijljbaaDoor
