/- Sets of units as numbers, plain: bits of a number below 65536. No program. -/
import Derived.Test.YtihboegopigkmaaDoorGs
namespace Go.Proofs.YtihboegopigkmaaDoor
set_option linter.unusedSimpArgs false
set_option linter.unusedVariables false
set_option linter.unnecessarySimpa false

/-- A set of units: a number below 65536. -/
def Set16 (s : Nat) : Prop := s < 65536
def oneN (i : Int) : Nat := if 0 ≤ i ∧ i < 16 then 2 ^ i.toNat else 0
def hasN (s : Nat) (i : Int) : Bool := decide (0 ≤ i ∧ i < 16) && s.testBit i.toNat
def withN (s : Nat) : List Int → Nat
  | [] => s
  | i :: l => withN (s ||| oneN i) l
def lessN (s t : Nat) : Nat := s &&& (65535 ^^^ t)
theorem oneN_lt (i : Int) : oneN i < 65536 := by
  unfold oneN
  split
  · have : i.toNat < 16 := by omega
    exact Nat.lt_of_lt_of_le (Nat.pow_lt_pow_right (by decide) this) (by decide)
  · decide
theorem or16 {s t : Nat} (hs : s < 65536) (ht : t < 65536) : s ||| t < 65536 := Nat.or_lt_two_pow (n := 16) hs ht
theorem and16 {s t : Nat} (ht : t < 65536) : s &&& t < 65536 := Nat.and_lt_two_pow (n := 16) s ht
theorem lessN_lt {s t : Nat} (hs : s < 65536) : lessN s t < 65536 := by
  unfold lessN
  rw [Nat.and_comm]
  exact Nat.and_lt_two_pow (n := 16) _ hs
theorem withN_lt {s : Nat} (hs : s < 65536) (l : List Int) : withN s l < 65536 := by
  induction l generalizing s with
  | nil => exact hs
  | cons i l ih => exact ih (or16 hs (oneN_lt i))
theorem withN_snoc (s : Nat) (l : List Int) (i : Int) : withN s (l ++ [i]) = withN s l ||| oneN i := by
  induction l generalizing s with
  | nil => rfl
  | cons j l ih => exact ih _
theorem oneN_bit (i : Int) (j : Nat) : (oneN i).testBit j = decide (0 ≤ i ∧ i < 16 ∧ i.toNat = j) := by
  unfold oneN
  split
  · rename_i h
    rw [Nat.testBit_two_pow]
    simp [h.1, h.2]
  · rename_i h
    simp
    omega
theorem hi_bit {s j : Nat} (hs : s < 65536) (hj : 16 ≤ j) : s.testBit j = false :=
  Nat.testBit_lt_two_pow (Nat.lt_of_lt_of_le hs (by have : 2 ^ 16 ≤ 2 ^ j := Nat.pow_le_pow_right (by decide) hj; omega))
theorem withN_bit {s : Nat} (l : List Int) (j : Nat) (hj : j < 16) : (withN s l).testBit j = (s.testBit j || l.any fun i => decide (i = (j : Int))) := by
  induction l generalizing s with
  | nil => simp [withN]
  | cons i l ih =>
    rw [withN, ih, Nat.testBit_or, oneN_bit, List.any_cons, Bool.or_assoc]
    congr 2
    by_cases h : i = (j : Int)
    · subst h; simp; omega
    · rw [decide_eq_false h, decide_eq_false]
      omega
theorem lessN_bit {s t : Nat} (hs : s < 65536) (j : Nat) : (lessN s t).testBit j = (s.testBit j && !t.testBit j) := by
  unfold lessN
  rw [Nat.testBit_and, Nat.testBit_xor]
  by_cases hj : j < 16
  · rw [show (65535 : Nat) = 2 ^ 16 - 1 from rfl, Nat.testBit_two_pow_sub_one]
    simp [hj]
  · rw [hi_bit hs (by omega)]
    simp
theorem set_ext {s t : Nat} (hs : s < 65536) (ht : t < 65536) (h : ∀ j, j < 16 → s.testBit j = t.testBit j) : s = t := by
  apply Nat.eq_of_testBit_eq
  intro j
  by_cases hj : j < 16
  · exact h j hj
  · rw [hi_bit hs (by omega), hi_bit ht (by omega)]
theorem set_zero {s : Nat} (hs : s < 65536) : s = 0 ↔ ∀ j, j < 16 → s.testBit j = false := by
  constructor
  · rintro rfl; simp
  · intro h; exact set_ext hs (by decide) (fun j hj => by rw [h j hj]; simp)
theorem and_pow1 (n i : Nat) : n &&& 2 ^ i = n / 2 ^ i % 2 * 2 ^ i := by
  have ht : n.testBit i = decide (n / 2 ^ i % 2 = 1) := Nat.testBit_eq_decide_div_mod_eq
  apply Nat.eq_of_testBit_eq
  intro k
  rw [Nat.testBit_and, Nat.testBit_two_pow]
  rcases (show n / 2 ^ i % 2 = 0 ∨ n / 2 ^ i % 2 = 1 by omega) with h | h
  · rw [h, Nat.zero_mul, Nat.zero_testBit]
    by_cases e : i = k
    · subst e; rw [ht, h]; rfl
    · simp [e]
  · rw [h, Nat.one_mul, Nat.testBit_two_pow]
    by_cases e : i = k
    · subst e; rw [ht, h]; rfl
    · simp [e]
theorem has_and (s : Nat) (i : Int) : (s &&& oneN i ≠ 0) ↔ hasN s i = true := by
  unfold oneN hasN
  by_cases h : 0 ≤ i ∧ i < 16
  · rw [if_pos h, decide_eq_true h, Bool.true_and, and_pow1, Nat.testBit_eq_decide_div_mod_eq]
    have hp := Nat.two_pow_pos i.toNat
    rcases (show s / 2 ^ i.toNat % 2 = 0 ∨ s / 2 ^ i.toNat % 2 = 1 by omega) with h | h
    · simp [h]
    · simp [h]
  · rw [if_neg h, decide_eq_false h]
    simp
theorem hasN_nat (s j : Nat) (hj : j < 16) : hasN s (j : Int) = s.testBit j := by
  unfold hasN
  rw [decide_eq_true (by omega)]
  simp
/-- The least from j on, at most n further; -1: none. -/
def nxt (s : Nat) : Nat → Nat → Int
  | 0, _ => -1
  | n + 1, j => if s.testBit j then (j : Int) else nxt s n (j + 1)
def nextN (s : Nat) (i : Int) : Int := nxt s (16 - i.toNat) i.toNat
theorem nxt_spec (s : Nat) : ∀ n j, (nxt s n j = -1 ∧ ∀ k, j ≤ k → k < j + n → s.testBit k = false) ∨ (∃ k : Nat, nxt s n j = (k : Int) ∧ j ≤ k ∧ k < j + n ∧ s.testBit k = true ∧ ∀ m, j ≤ m → m < k → s.testBit m = false)
  | 0, j => .inl ⟨rfl, fun k h1 h2 => by omega⟩
  | n + 1, j => by
    unfold nxt
    by_cases hb : s.testBit j = true
    · rw [if_pos hb]
      exact .inr ⟨j, rfl, Nat.le_refl _, by omega, hb, fun m h1 h2 => by omega⟩
    · rw [if_neg hb]
      have hb' : s.testBit j = false := by simpa using hb
      rcases nxt_spec s n (j + 1) with ⟨h1, h2⟩ | ⟨k, h1, h2, h3, h4, h5⟩
      · refine .inl ⟨h1, fun k h3 h4 => ?_⟩
        rcases Nat.eq_or_lt_of_le h3 with h | h
        · rw [← h]; exact hb'
        · exact h2 k h (by omega)
      · refine .inr ⟨k, h1, by omega, by omega, h4, fun m h6 h7 => ?_⟩
        rcases Nat.eq_or_lt_of_le h6 with h | h
        · rw [← h]; exact hb'
        · exact h5 m h h7
/-- A number's lowest bit. -/
theorem low_bit {x k : Nat} (hx : x < 65536) (hk : k < 16) (h1 : x.testBit k = true) (h0 : ∀ j, j < k → x.testBit j = false) : x &&& (65536 - x) = 2 ^ k := by
  have hmod : x % 2 ^ k = 0 := by
    apply Nat.eq_of_testBit_eq
    intro j
    rw [Nat.testBit_mod_two_pow]
    by_cases hj : j < k
    · simp [hj, h0 j hj]
    · simp [hj]
  obtain ⟨q, hq⟩ : ∃ q, x = 2 ^ k * q := ⟨x / 2 ^ k, by have := Nat.div_add_mod x (2 ^ k); omega⟩
  have hpos : 0 < 2 ^ k := Nat.two_pow_pos k
  have hodd : q % 2 = 1 := by
    rw [Nat.testBit_eq_decide_div_mod_eq, hq, Nat.mul_div_cancel_left _ hpos] at h1
    simpa using h1
  have hpow : 2 ^ k * 2 ^ (16 - k) = 65536 := by rw [← Nat.pow_add]; rw [show k + (16 - k) = 16 by omega]
  have hlt : q < 2 ^ (16 - k) := by
    rcases Nat.lt_or_ge q (2 ^ (16 - k)) with h | h
    · exact h
    · have := Nat.mul_le_mul_left (2 ^ k) h
      omega
  have e : 65536 - x = 2 ^ k * (2 ^ (16 - k) - q) := by rw [Nat.mul_sub, hpow, ← hq]
  rw [e, hq]
  apply Nat.eq_of_testBit_eq
  intro j
  rw [Nat.testBit_and, Nat.testBit_two_pow_mul, Nat.testBit_two_pow_mul, Nat.testBit_two_pow]
  by_cases hj : k ≤ j
  · obtain ⟨d, rfl⟩ : ∃ d, j = k + d := ⟨j - k, by omega⟩
    rw [show k + d - k = d by omega]
    cases d with
    | zero =>
      have e1 : q.testBit 0 = true := by rw [Nat.testBit_zero]; simpa using hodd
      have e2 : (2 ^ (16 - k) - q).testBit 0 = true := by
        rw [Nat.testBit_zero]
        obtain ⟨m, hm⟩ : ∃ m, 16 - k = m + 1 := ⟨15 - k, by omega⟩
        rw [hm, Nat.pow_succ] at hlt ⊢
        simp; omega
      simp [e1, e2]
    | succ d =>
      have e3 : 2 ^ (16 - k) - q = 2 ^ (16 - k) - ((q - 1) + 1) := by omega
      rw [e3, Nat.testBit_two_pow_sub_succ (by omega)]
      have e4 : (q - 1).testBit (d + 1) = q.testBit (d + 1) := by
        rw [Nat.testBit_add_one, Nat.testBit_add_one]
        congr 1
        omega
      rw [e4]
      have : ¬ k = k + (d + 1) := by omega
      simp [this]
      exact fun h _ => h
  · have : ¬ k = j := by omega
    simp [hj, this]
end Go.Proofs.YtihboegopigkmaaDoor
