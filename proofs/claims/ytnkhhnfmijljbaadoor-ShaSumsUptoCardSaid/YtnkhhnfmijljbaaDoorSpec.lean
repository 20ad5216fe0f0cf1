/- The plain sum: SHA-256 over lists of bytes, as chapter 2 has it, and its laws. No program in sight. -/
namespace Go.Proofs.YtnkhhnfmijljbaaDoor.Spec

/-- turned to the right by n -/
def rr (x : UInt32) (n : Nat) : UInt32 := (x >>> UInt32.ofNat n) ||| (x <<< UInt32.ofNat (32 - n))
def s0 (x : UInt32) : UInt32 := rr x 7 ^^^ rr x 18 ^^^ (x >>> 3)
def s1 (x : UInt32) : UInt32 := rr x 17 ^^^ rr x 19 ^^^ (x >>> 10)
/-- four bytes, the greatest first -/
def be (a b c d : UInt8) : UInt32 := (a.toUInt32 <<< 24) ||| (b.toUInt32 <<< 16) ||| (c.toUInt32 <<< 8) ||| d.toUInt32
def nextW (b : List UInt8) (ws : List UInt32) (t : Nat) : UInt32 :=
  if t < 16 then be (b.getD (4 * t) 0) (b.getD (4 * t + 1) 0) (b.getD (4 * t + 2) 0) (b.getD (4 * t + 3) 0)
  else s1 (ws.getD (t - 2) 0) + (ws.getD (t - 7) 0 + ws.getD (t - 16) 0 + s0 (ws.getD (t - 15) 0))
/-- the first t words of a block -/
def sched (b : List UInt8) : Nat → List UInt32
  | 0 => []
  | t + 1 => sched b t ++ [nextW b (sched b t) t]
/-- eight words -/
structure V where
  a : UInt32
  b : UInt32
  c : UInt32
  d : UInt32
  e : UInt32
  f : UInt32
  g : UInt32
  h : UInt32
deriving DecidableEq
def V.list (v : V) : List UInt32 := [v.a, v.b, v.c, v.d, v.e, v.f, v.g, v.h]
def V.add (s v : V) : V := ⟨s.a + v.a, s.b + v.b, s.c + v.c, s.d + v.d, s.e + v.e, s.f + v.f, s.g + v.g, s.h + v.h⟩
def K : List UInt32 := [
  0x428a2f98, 0x71374491, 0xb5c0fbcf, 0xe9b5dba5, 0x3956c25b, 0x59f111f1, 0x923f82a4, 0xab1c5ed5,
  0xd807aa98, 0x12835b01, 0x243185be, 0x550c7dc3, 0x72be5d74, 0x80deb1fe, 0x9bdc06a7, 0xc19bf174,
  0xe49b69c1, 0xefbe4786, 0x0fc19dc6, 0x240ca1cc, 0x2de92c6f, 0x4a7484aa, 0x5cb0a9dc, 0x76f988da,
  0x983e5152, 0xa831c66d, 0xb00327c8, 0xbf597fc7, 0xc6e00bf3, 0xd5a79147, 0x06ca6351, 0x14292967,
  0x27b70a85, 0x2e1b2138, 0x4d2c6dfc, 0x53380d13, 0x650a7354, 0x766a0abb, 0x81c2c92e, 0x92722c85,
  0xa2bfe8a1, 0xa81a664b, 0xc24b8b70, 0xc76c51a3, 0xd192e819, 0xd6990624, 0xf40e3585, 0x106aa070,
  0x19a4c116, 0x1e376c08, 0x2748774c, 0x34b0bcb5, 0x391c0cb3, 0x4ed8aa4a, 0x5b9cca4f, 0x682e6ff3,
  0x748f82ee, 0x78a5636f, 0x84c87814, 0x8cc70208, 0x90befffa, 0xa4506ceb, 0xbef9a3f7, 0xc67178f2]
def first : V := ⟨0x6a09e667, 0xbb67ae85, 0x3c6ef372, 0xa54ff53a, 0x510e527f, 0x9b05688c, 0x1f83d9ab, 0x5be0cd19⟩
def tOne (v : V) (k w : UInt32) : UInt32 := v.h + (rr v.e 6 ^^^ rr v.e 11 ^^^ rr v.e 25) + ((v.e &&& v.f) ^^^ (~~~v.e &&& v.g)) + k + w
def tTwo (v : V) : UInt32 := (rr v.a 2 ^^^ rr v.a 13 ^^^ rr v.a 22) + ((v.a &&& v.b) ^^^ (v.a &&& v.c) ^^^ (v.b &&& v.c))
def step (v : V) (k w : UInt32) : V := ⟨tOne v k w + tTwo v, v.a, v.b, v.c, v.d + tOne v k w, v.e, v.f, v.g⟩
def rounds (ws : List UInt32) (v : V) : Nat → V
  | 0 => v
  | t + 1 => step (rounds ws v t) (K.getD t 0) (ws.getD t 0)
/-- the state behind a block -/
def mix (s : V) (b : List UInt8) : V := s.add (rounds (sched b 64) s 64)
/-- the state behind n blocks -/
def foldN (s : V) (bs : List UInt8) : Nat → V
  | 0 => s
  | n + 1 => mix (foldN s bs n) ((bs.drop (64 * n)).take 64)
def wordsOf (bs : List UInt8) : V := foldN first bs (bs.length / 64)
def restOf (bs : List UInt8) : List UInt8 := bs.drop (64 * (bs.length / 64))
def be64 (n : Nat) : List UInt8 := (List.range 8).map fun i => UInt8.ofNat (n >>> (56 - 8 * i))
def zerosFor (n : Nat) : Nat := (119 - n % 64) % 64
def padded (bs : List UInt8) : List UInt8 := bs ++ [0x80] ++ List.replicate (zerosFor bs.length) 0 ++ be64 (8 * bs.length)
def bytes32 (x : UInt32) : List UInt8 := [(x >>> 24).toUInt8, (x >>> 16).toUInt8, (x >>> 8).toUInt8, x.toUInt8]
def V.bytes (v : V) : List UInt8 := bytes32 v.a ++ bytes32 v.b ++ bytes32 v.c ++ bytes32 v.d ++ bytes32 v.e ++ bytes32 v.f ++ bytes32 v.g ++ bytes32 v.h
def digest (bs : List UInt8) : List UInt8 := (wordsOf (padded bs)).bytes

theorem sched_length (b : List UInt8) : ∀ t, (sched b t).length = t
  | 0 => rfl
  | t + 1 => by simp [sched, sched_length b t]
theorem foldN_append (s : V) (bs cs : List UInt8) : ∀ n, 64 * n ≤ bs.length → foldN s (bs ++ cs) n = foldN s bs n
  | 0, _ => rfl
  | n + 1, h => by
    have h1 : (List.drop (64 * n) (bs ++ cs)).take 64 = (List.drop (64 * n) bs).take 64 := by
      rw [List.drop_append_of_le_length (by omega), List.take_append_of_le_length (by simp; omega)]
    simp only [foldN, foldN_append s bs cs n (by omega), h1]
theorem padded_length (bs : List UInt8) : (padded bs).length % 64 = 0 := by
  simp [padded, be64, zerosFor]; omega
theorem digest_length (bs : List UInt8) : (digest bs).length = 32 := by simp [digest, V.bytes, bytes32]
theorem restOf_length (bs : List UInt8) : (restOf bs).length = bs.length % 64 := by simp [restOf]; omega
theorem rest_short (bs c : List UInt8) (h : bs.length % 64 + c.length < 64) : wordsOf (bs ++ c) = wordsOf bs ∧ restOf (bs ++ c) = restOf bs ++ c := by
  have hd : (bs ++ c).length / 64 = bs.length / 64 := by simp; omega
  constructor
  · rw [wordsOf, hd, foldN_append _ _ _ _ (by omega)]; rfl
  · rw [restOf, hd, List.drop_append_of_le_length (by omega)]; rfl
theorem rest_full (bs c : List UInt8) (h : bs.length % 64 + c.length = 64) : wordsOf (bs ++ c) = mix (wordsOf bs) (restOf bs ++ c) ∧ restOf (bs ++ c) = [] ∧ (bs ++ c).length % 64 = 0 := by
  have hd : (bs ++ c).length / 64 = bs.length / 64 + 1 := by simp; omega
  refine ⟨?_, ?_, by simp; omega⟩
  · rw [wordsOf, hd, foldN, foldN_append _ _ _ _ (by omega), List.drop_append_of_le_length (by omega), List.take_of_length_le (by simp; omega)]; rfl
  · rw [restOf, hd]; apply List.drop_of_length_le; simp; omega
end Go.Proofs.YtnkhhnfmijljbaaDoor.Spec
