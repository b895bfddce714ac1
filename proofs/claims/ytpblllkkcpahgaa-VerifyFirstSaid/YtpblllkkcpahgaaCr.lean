/- Sums that show what was spoilt, plain: bit by bit, and by a table. No program. -/
import Derived.Test.YtpblllkkcpahgaaBy
namespace Go.Proofs.Ytpblllkkcpahgaa
set_option linter.unusedSimpArgs false
set_option linter.unusedVariables false
set_option linter.unnecessarySimpa false
set_option maxRecDepth 100000
open Go.RowKit

def st1 (s : Nat) : Nat := ((s <<< 1) % 2 ^ 16) ^^^ ((s >>> 15) * 4129)
def st8 (s : Nat) : Nat := st1 (st1 (st1 (st1 (st1 (st1 (st1 (st1 s)))))))
def crcStep (s b : Nat) : Nat := st8 (s ^^^ b * 256)
def crcF (s : Nat) (zs : List Int) : Nat := zs.foldl (fun s b => crcStep s b.toNat) s
/-- The sum of bytes. -/
def crc (zs : List Int) : Nat := crcF 65535 zs
theorem xor_lt16 {a b : Nat} (ha : a < 65536) (hb : b < 65536) : a ^^^ b < 65536 := Nat.xor_lt_two_pow (n := 16) ha hb
theorem st1_lt {s : Nat} (h : s < 65536) : st1 s < 65536 := by
  unfold st1
  refine xor_lt16 (Nat.mod_lt _ (by decide)) ?_
  rw [Nat.shiftRight_eq_div_pow]
  have : s / 2 ^ 15 < 2 := by omega
  omega
theorem st8_lt {s : Nat} (h : s < 65536) : st8 s < 65536 := st1_lt (st1_lt (st1_lt (st1_lt (st1_lt (st1_lt (st1_lt (st1_lt h)))))))
theorem st1_lin {a b : Nat} (ha : a < 65536) (hb : b < 65536) : st1 (a ^^^ b) = st1 a ^^^ st1 b := by
  unfold st1
  rw [Nat.shiftLeft_xor_distrib, Nat.xor_mod_two_pow, Nat.shiftRight_xor_distrib]
  have h1 : a >>> 15 = 0 ∨ a >>> 15 = 1 := by rw [Nat.shiftRight_eq_div_pow]; omega
  have h2 : b >>> 15 = 0 ∨ b >>> 15 = 1 := by rw [Nat.shiftRight_eq_div_pow]; omega
  rcases h1 with h1 | h1 <;> rcases h2 with h2 | h2 <;> rw [h1, h2] <;> simp [Nat.xor_assoc]
  · rw [Nat.xor_comm 4129]
  · rw [← Nat.xor_assoc 4129, Nat.xor_comm 4129, Nat.xor_assoc, Nat.xor_self, Nat.xor_zero]
theorem st8_lin {a b : Nat} (ha : a < 65536) (hb : b < 65536) : st8 (a ^^^ b) = st8 a ^^^ st8 b := by
  unfold st8
  rw [st1_lin ha hb]
  have a1 := st1_lt ha
  have b1 := st1_lt hb
  rw [st1_lin a1 b1]
  have a2 := st1_lt a1
  have b2 := st1_lt b1
  rw [st1_lin a2 b2]
  have a3 := st1_lt a2
  have b3 := st1_lt b2
  rw [st1_lin a3 b3]
  have a4 := st1_lt a3
  have b4 := st1_lt b3
  rw [st1_lin a4 b4]
  have a5 := st1_lt a4
  have b5 := st1_lt b4
  rw [st1_lin a5 b5]
  have a6 := st1_lt a5
  have b6 := st1_lt b5
  rw [st1_lin a6 b6]
  have a7 := st1_lt a6
  have b7 := st1_lt b6
  rw [st1_lin a7 b7]
theorem crcStep_lt {s b : Nat} (hs : s < 65536) (hb : b < 256) : crcStep s b < 65536 := st8_lt (xor_lt16 hs (by omega))
theorem st8_lo : ∀ l, l < 256 → st8 l = l * 256 := by decide +kernel
theorem split16 (s : Nat) : s = (s / 256 * 256) ^^^ (s % 256) := by
  have h1 : s / 256 * 256 + s % 256 = s := by omega
  have h2 := Nat.two_pow_add_eq_or_of_lt (i := 8) (b := s % 256) (by omega) (s / 256)
  have h3 : s / 256 * 256 ^^^ s % 256 = s / 256 * 256 ||| s % 256 := by
    apply Nat.eq_of_testBit_eq
    intro i
    rw [Nat.testBit_xor, Nat.testBit_or]
    by_cases hi : i < 8
    · have : (s / 256 * 256).testBit i = false := by
        rw [Nat.mul_comm, show 256 = 2 ^ 8 from rfl, Nat.testBit_two_pow_mul]
        simp; omega
      rw [this]; simp
    · have : (s % 256).testBit i = false := by
        rw [show 256 = 2 ^ 8 from rfl, Nat.testBit_mod_two_pow]
        simp; omega
      rw [this]; simp
  rw [h3, Nat.mul_comm, show 256 = 2 ^ 8 from rfl, ← h2]
  omega
/-- By the table. -/
theorem crc_table {s b : Nat} (hs : s < 65536) (hb : b < 256) : (s * 256 % 65536) ^^^ st8 (((s / 256) ^^^ b) * 256) = crcStep s b := by
  have e : s ^^^ b * 256 = (((s / 256) ^^^ b) * 256) ^^^ (s % 256) := by
    have h1 : ((s / 256) ^^^ b) * 256 = (s / 256 * 256) ^^^ (b * 256) := by
      have := Nat.shiftLeft_xor_distrib (a := s / 256) (b := b) (i := 8)
      simpa [Nat.shiftLeft_eq] using this
    rw [h1]
    conv => lhs; rw [split16 s]
    rw [Nat.xor_assoc, Nat.xor_comm (s % 256), ← Nat.xor_assoc]
  have hx : (s / 256) ^^^ b < 256 := Nat.xor_lt_two_pow (n := 8) (by omega) hb
  unfold crcStep
  rw [e, st8_lin (by omega) (by omega), st8_lo (s % 256) (by omega), Nat.xor_comm, show s * 256 % 65536 = s % 256 * 256 by omega]
/-- Bit by bit: one step with the next bit. -/
def rst (s t : Nat) : Nat := if (t + s / 32768) % 2 = 1 then (s * 2 % 65536) ^^^ 4129 else s * 2 % 65536
theorem rst_lt {s t : Nat} : rst s t < 65536 := by
  unfold rst
  split
  · exact xor_lt16 (by omega) (by decide)
  · omega
theorem top_hi : ∀ s, s < 32768 → s ^^^ 32768 = s + 32768 := by
  intro s h
  have h1 := Nat.two_pow_add_eq_or_of_lt (i := 15) (b := s) h 1
  have h3 : s ^^^ 32768 = 32768 ||| s := by
    apply Nat.eq_of_testBit_eq
    intro i
    rw [Nat.testBit_xor, Nat.testBit_or, show 32768 = 2 ^ 15 from rfl, Nat.testBit_two_pow]
    by_cases hi : 15 = i
    · subst hi
      have : s.testBit 15 = false := Nat.testBit_lt_two_pow h
      simp [this]
    · simp [hi]
  rw [h3]
  simp at h1
  omega
theorem rst_eq {s t : Nat} (hs : s < 65536) (ht : t < 2) : rst s t = st1 (s ^^^ t * 32768) := by
  have h15 : s >>> 15 = s / 32768 := by rw [Nat.shiftRight_eq_div_pow]
  unfold rst st1
  rcases (show t = 0 ∨ t = 1 by omega) with rfl | rfl
  · rw [Nat.zero_mul, Nat.xor_zero, Nat.shiftLeft_eq, Nat.shiftRight_eq_div_pow]
    rcases (show s / 32768 = 0 ∨ s / 32768 = 1 by omega) with h | h <;> simp [h]
  · rw [Nat.one_mul]
    by_cases h : s < 32768
    · rw [top_hi s h, Nat.shiftLeft_eq, Nat.shiftRight_eq_div_pow]
      rw [if_pos (by omega), show (s + 32768) / 2 ^ 15 = 1 by omega, show (s + 32768) * 2 ^ 1 % 2 ^ 16 = s * 2 % 65536 by omega]
    · have e : s ^^^ 32768 = s - 32768 := by
        have h2 := top_hi (s - 32768) (by omega)
        rw [show s - 32768 + 32768 = s by omega] at h2
        have h3 : s ^^^ 32768 = ((s - 32768) ^^^ 32768) ^^^ 32768 := by rw [h2]
        rw [h3, Nat.xor_assoc, Nat.xor_self, Nat.xor_zero]
      rw [e, Nat.shiftLeft_eq, Nat.shiftRight_eq_div_pow, if_neg (by omega), show (s - 32768) / 2 ^ 15 = 0 by omega, show (s - 32768) * 2 ^ 1 % 2 ^ 16 = s * 2 % 65536 by omega]
      simp
theorem bits_a : ∀ r, r < 256 → r * 256 = (r / 128 * 32768) ^^^ (r % 128 * 256) := by decide +kernel
theorem bits_b : ∀ r, r < 256 → st1 (r % 128 * 256) = r * 2 % 256 * 256 := by decide +kernel
theorem rst_step {s r : Nat} (hs : s < 65536) (hr : r < 256) : st1 (s ^^^ r * 256) = rst s (r / 128) ^^^ (r * 2 % 256 * 256) := by
  rw [bits_a r hr, ← Nat.xor_assoc, st1_lin _ (by omega), bits_b r hr, rst_eq hs (by omega)]
  exact xor_lt16 hs (by omega)
/-- The bits of a byte, from the highest on. -/
def rst8 (s b : Nat) : Nat := rst (rst (rst (rst (rst (rst (rst (rst s (b / 128 % 2)) (b / 64 % 2)) (b / 32 % 2)) (b / 16 % 2)) (b / 8 % 2)) (b / 4 % 2)) (b / 2 % 2)) (b / 1 % 2)
theorem rst8_eq {s b : Nat} (hs : s < 65536) (hb : b < 256) : rst8 s b = crcStep s b := by
  unfold crcStep st8
  rw [rst_step hs hb]
  rw [rst_step rst_lt (show b * 2 % 256 < 256 by omega)]
  rw [rst_step rst_lt (show b * 2 % 256 * 2 % 256 < 256 by omega)]
  rw [rst_step rst_lt (show b * 2 % 256 * 2 % 256 * 2 % 256 < 256 by omega)]
  rw [rst_step rst_lt (show b * 2 % 256 * 2 % 256 * 2 % 256 * 2 % 256 < 256 by omega)]
  rw [rst_step rst_lt (show b * 2 % 256 * 2 % 256 * 2 % 256 * 2 % 256 * 2 % 256 < 256 by omega)]
  rw [rst_step rst_lt (show b * 2 % 256 * 2 % 256 * 2 % 256 * 2 % 256 * 2 % 256 * 2 % 256 < 256 by omega)]
  rw [rst_step rst_lt (show b * 2 % 256 * 2 % 256 * 2 % 256 * 2 % 256 * 2 % 256 * 2 % 256 * 2 % 256 < 256 by omega)]
  rw [show b * 2 % 256 * 2 % 256 * 2 % 256 * 2 % 256 * 2 % 256 * 2 % 256 * 2 % 256 * 2 % 256 * 256 = 0 by omega, Nat.xor_zero]
  unfold rst8
  rw [show b / 128 % 2 = b / 128 by omega, show b / 64 % 2 = b * 2 % 256 / 128 by omega, show b / 32 % 2 = b * 2 % 256 * 2 % 256 / 128 by omega, show b / 16 % 2 = b * 2 % 256 * 2 % 256 * 2 % 256 / 128 by omega, show b / 8 % 2 = b * 2 % 256 * 2 % 256 * 2 % 256 * 2 % 256 / 128 by omega,
    show b / 4 % 2 = b * 2 % 256 * 2 % 256 * 2 % 256 * 2 % 256 * 2 % 256 / 128 by omega, show b / 2 % 2 = b * 2 % 256 * 2 % 256 * 2 % 256 * 2 % 256 * 2 % 256 * 2 % 256 / 128 by omega, show b / 1 % 2 = b * 2 % 256 * 2 % 256 * 2 % 256 * 2 % 256 * 2 % 256 * 2 % 256 * 2 % 256 / 128 by omega]
theorem crcF_lt {s : Nat} {zs : List Int} (hs : s < 65536) (hz : AllU8 zs) : crcF s zs < 65536 := by
  induction zs generalizing s with
  | nil => exact hs
  | cons z zs ih =>
    have h1 := hz z (.head _)
    unfold U8 at h1
    exact ih (crcStep_lt hs (by omega)) (fun x hx => hz x (.tail _ hx))
theorem crc_lt {zs : List Int} (hz : AllU8 zs) : crc zs < 65536 := crcF_lt (by decide) hz
theorem crcF_snoc (s : Nat) (zs : List Int) (z : Int) : crcF s (zs ++ [z]) = crcStep (crcF s zs) z.toNat := by simp [crcF]
theorem crcF_take (s : Nat) {zs : List Int} {j : Nat} (h : j < zs.length) : crcF s (zs.take (j + 1)) = crcStep (crcF s (zs.take j)) (zs.getD j 0).toNat := by rw [take_snoc zs j h, crcF_snoc]
theorem bits_xor (k : IntKind) (j : Nat) (hj : j ≤ k.bits) (hk : ∀ n : Int, 0 ≤ n → n < 2 ^ j → k.wrap n = n) (a b : Nat) (ha : a < 2 ^ j) (hb : b < 2 ^ j) :
    bits .xor k a b = ((a ^^^ b : Nat) : Int) := by
  have hp : 2 ^ j ≤ 2 ^ k.bits := Nat.pow_le_pow_right (by decide) hj
  have ha' : a % 2 ^ k.bits = a := Nat.mod_eq_of_lt (Nat.lt_of_lt_of_le ha hp)
  have hb' : b % 2 ^ k.bits = b := Nat.mod_eq_of_lt (Nat.lt_of_lt_of_le hb hp)
  have cast : ∀ n : Nat, n < 2 ^ j → ((n : Nat) : Int) < 2 ^ j := fun n h => by exact_mod_cast h
  simp only [bits, BitVec.ofInt_natCast, BitVec.toNat_xor, BitVec.toNat_ofNat, ha', hb']
  exact hk _ (Int.natCast_nonneg _) (cast _ (Nat.xor_lt_two_pow ha hb))
theorem xor_u16 {a b : Nat} (ha : a < 65536) (hb : b < 65536) : bits .xor .u16 (a : Int) (b : Int) = ((a ^^^ b : Nat) : Int) :=
  bits_xor .u16 16 (by decide) (fun n h0 h1 => wrap_in (by dsimp only [inR]; have : (2 : Int) ^ 16 = 65536 := (by decide); omega)) a b ha hb
theorem xor_u8 {a b : Nat} (ha : a < 256) (hb : b < 256) : bits .xor .u8 (a : Int) (b : Int) = ((a ^^^ b : Nat) : Int) :=
  bits_xor .u8 8 (by decide) (fun n h0 h1 => wrap_in (by dsimp only [inR]; have : (2 : Int) ^ 8 = 256 := (by decide); omega)) a b ha hb
theorem xor_i64 {a b : Nat} (ha : a < 65536) (hb : b < 65536) : bits .xor .i64 (a : Int) (b : Int) = ((a ^^^ b : Nat) : Int) :=
  bits_xor .i64 16 (by decide) (fun n h0 h1 => wrap_in (by dsimp only [inR]; have : (2 : Int) ^ 16 = 65536 := (by decide); omega)) a b ha hb
end Go.Proofs.Ytpblllkkcpahgaa
