/- The walks of the laws FixqSmall, FixqOrders. -/
import Derived.Test.YtklfkopfgiafcaaFqLa
namespace Go.Proofs.Ytklfkopfgiafcaa
set_option linter.unusedSimpArgs false
set_option linter.unusedVariables false
set_option linter.unnecessarySimpa false
set_option linter.unusedSectionVars false
open Go.RowKit

theorem sat_mono {a b : Int} (h : a ≤ b) : sat a ≤ sat b := by grind [sat]
theorem tdiv_mono {a b c : Int} (h : a ≤ b) (hc : 0 < c) : a.tdiv c ≤ b.tdiv c := by
  have hm := Int.ediv_le_ediv hc h
  have h1 : c.sign = 1 := Int.sign_eq_one_of_pos hc
  rw [Int.tdiv_eq_ediv, Int.tdiv_eq_ediv, h1]
  by_cases ha : 0 ≤ a ∨ c ∣ a
  · by_cases hb : 0 ≤ b ∨ c ∣ b
    · rw [if_pos ha, if_pos hb]; omega
    · rw [if_pos ha, if_neg hb]; omega
  · by_cases hb : 0 ≤ b ∨ c ∣ b
    · rw [if_neg ha, if_pos hb]
      have h2 : a / c < b / c := by
        rcases Int.lt_or_eq_of_le hm with h2 | h2
        · exact h2
        · exfalso
          have e1 := Int.mul_ediv_add_emod a c
          have e2 := Int.mul_ediv_add_emod b c
          have r1 := Int.emod_nonneg a (b := c) (by omega)
          have r2 := Int.emod_lt_of_pos a hc
          rw [← h2] at e2
          have h3 : a % c ≠ 0 := fun e => ha (.inr (Int.dvd_of_emod_eq_zero e))
          rcases hb with hb | hb
          · have h4 : 0 ≤ a / c := by rw [h2]; exact Int.ediv_nonneg hb (by omega)
            have := Int.mul_nonneg (show (0 : Int) ≤ c by omega) h4
            omega
          · have := Int.emod_eq_zero_of_dvd hb
            omega
      omega
    · rw [if_neg ha, if_neg hb]; omega

theorem ord_facts (x y c n q b : Int) (h : x ≤ y) (hn : 0 ≤ n) :
    sat (x + c) ≤ sat (y + c) ∧ sat (c - y) ≤ sat (c - x) ∧ sat (x * n / 2 ^ pt q) ≤ sat (y * n / 2 ^ pt q) ∧ shiftv x b ≤ shiftv y b ∧ clampv x (-n) n ≤ clampv y (-n) n ∧ sat (-y) ≤ sat (-x) ∧ divv x (n + 1) q ≤ divv y (n + 1) q := by
  have hp := (pow_bd q).1
  have hp2 := (pow_bd b).1
  have hp3 := (pow_bd (-b)).1
  refine ⟨sat_mono (by omega), sat_mono (by omega), sat_mono (Int.ediv_le_ediv (by omega) (Int.mul_le_mul_of_nonneg_right h hn)), ?_, by grind [clampv], sat_mono (by omega), ?_⟩
  · unfold shiftv
    by_cases hb : b < 0
    · rw [if_pos hb, if_pos hb]; exact Int.ediv_le_ediv (by omega) h
    · rw [if_neg hb, if_neg hb]; exact sat_mono (Int.mul_le_mul_of_nonneg_right h (by omega))
  · unfold divv
    rw [if_neg (by omega), if_neg (by omega)]
    exact sat_mono (tdiv_mono (Int.mul_le_mul_of_nonneg_right h (by omega)) (by omega))

set_option maxHeartbeats 2000000 in
theorem fixqOrders_walk (a b c k q by_ : Int) (w : World) (ha : -2147483648 ≤ a ∧ a ≤ 2147483647) (hb : -2147483648 ≤ b ∧ b ≤ 2147483647) (hc : -2147483648 ≤ c ∧ c ≤ 2147483647) (hk : 0 ≤ k ∧ k ≤ 255) (_hq : -9223372036854775808 ≤ q ∧ q ≤ 9223372036854775807) (_hby : -9223372036854775808 ≤ by_ ∧ by_ ≤ 9223372036854775807) :
    Calls Try.prog 10 #[.int .i32 a, .int .i32 b, .int .i32 c, .int .u8 k, .int .i64 q, .int .i64 by_] w fun e w' => e = .returned (.bool true) ∧ Below w.heap.size w w' := by
  by_cases hab : b < a
  · obtain ⟨f1, f2, f3, f4, f5, f6, f7⟩ := ord_facts b a c k q by_ (by omega) hk.1
    go_enter Try.func10, Try.ntmps10
    go_wp2_with (first
      | (go_at_call 11; refine (awake_any _).mono ?_; rintro e w1 ⟨rfl, hb1⟩)
      | (go_at_call 14; (with_reducible refine (add2_any _ _ _ _ _ (by simp) (by omega) (by omega)).mono ?_); rintro e w' ⟨rfl, rfl⟩)
      | (go_at_call 15; refine (sub_any _ _ _ (by omega) (by omega)).mono ?_; rintro e w' ⟨rfl, rfl⟩)
      | (go_at_call 22; refine (mul_any _ _ _ _ (by omega) (by omega)).mono ?_; rintro e w' ⟨rfl, rfl⟩)
      | (go_at_call 20; refine (shift_any _ _ _ (by omega)).mono ?_; rintro e w' ⟨rfl, rfl⟩)
      | (go_at_call 21; refine (clamp_any _ _ _ _).mono ?_; rintro e w' ⟨rfl, rfl⟩)
      | (go_at_call 16; refine (neg_any _ _ (by omega)).mono ?_; rintro e w' ⟨rfl, rfl⟩)
      | (go_at_call 23; refine (div_any _ _ _ _ (by omega) (by omega)).mono ?_; rintro e w' ⟨rfl, rfl⟩))
    go_ret
    refine ⟨ret_bool (by simp), ?_⟩
    exact (hb1.alloc hb1.size _).alloc (by have := hb1.size; simp; omega) _
  · rcases (show a < b ∨ a = b by omega) with h1 | h1
    · obtain ⟨f1, f2, f3, f4, f5, f6, f7⟩ := ord_facts a b c k q by_ (by omega) hk.1
      go_enter Try.func10, Try.ntmps10
      go_wp2_with (first
        | (go_at_call 11; refine (awake_any _).mono ?_; rintro e w1 ⟨rfl, hb1⟩)
        | (go_at_call 14; (with_reducible refine (add2_any _ _ _ _ _ (by simp) (by omega) (by omega)).mono ?_); rintro e w' ⟨rfl, rfl⟩)
        | (go_at_call 15; refine (sub_any _ _ _ (by omega) (by omega)).mono ?_; rintro e w' ⟨rfl, rfl⟩)
        | (go_at_call 22; refine (mul_any _ _ _ _ (by omega) (by omega)).mono ?_; rintro e w' ⟨rfl, rfl⟩)
        | (go_at_call 20; refine (shift_any _ _ _ (by omega)).mono ?_; rintro e w' ⟨rfl, rfl⟩)
        | (go_at_call 21; refine (clamp_any _ _ _ _).mono ?_; rintro e w' ⟨rfl, rfl⟩)
        | (go_at_call 16; refine (neg_any _ _ (by omega)).mono ?_; rintro e w' ⟨rfl, rfl⟩)
        | (go_at_call 23; refine (div_any _ _ _ _ (by omega) (by omega)).mono ?_; rintro e w' ⟨rfl, rfl⟩))
      go_ret
      refine ⟨ret_bool (by simp), ?_⟩
      exact (hb1.alloc hb1.size _).alloc (by have := hb1.size; simp; omega) _

    · subst h1
      obtain ⟨f1, f2, f3, f4, f5, f6, f7⟩ := ord_facts a a c k q by_ (by omega) hk.1
      go_enter Try.func10, Try.ntmps10
      go_wp2_with (first
        | (go_at_call 11; refine (awake_any _).mono ?_; rintro e w1 ⟨rfl, hb1⟩)
        | (go_at_call 14; (with_reducible refine (add2_any _ _ _ _ _ (by simp) (by omega) (by omega)).mono ?_); rintro e w' ⟨rfl, rfl⟩)
        | (go_at_call 15; refine (sub_any _ _ _ (by omega) (by omega)).mono ?_; rintro e w' ⟨rfl, rfl⟩)
        | (go_at_call 22; refine (mul_any _ _ _ _ (by omega) (by omega)).mono ?_; rintro e w' ⟨rfl, rfl⟩)
        | (go_at_call 20; refine (shift_any _ _ _ (by omega)).mono ?_; rintro e w' ⟨rfl, rfl⟩)
        | (go_at_call 21; refine (clamp_any _ _ _ _).mono ?_; rintro e w' ⟨rfl, rfl⟩)
        | (go_at_call 16; refine (neg_any _ _ (by omega)).mono ?_; rintro e w' ⟨rfl, rfl⟩)
        | (go_at_call 23; refine (div_any _ _ _ _ (by omega) (by omega)).mono ?_; rintro e w' ⟨rfl, rfl⟩))
      go_ret
      refine ⟨ret_bool (by simp), ?_⟩
      exact (hb1.alloc hb1.size _).alloc (by have := hb1.size; simp; omega) _

end Go.Proofs.Ytklfkopfgiafcaa
