/- The walks of the laws FixqShifts, FixqTimes, FixqRoots. -/
import Derived.Test.YtklfkopfgiafcaaFqAw
namespace Go.Proofs.Ytklfkopfgiafcaa
set_option linter.unusedSimpArgs false
set_option linter.unusedVariables false
set_option linter.unnecessarySimpa false
set_option linter.unusedSectionVars false
open Go.RowKit

theorem sat_id (n : Int) (h : -2147483648 ≤ n ∧ n ≤ 2147483647) : sat n = n := by unfold sat; rw [if_neg (by omega), if_neg (by omega)]

theorem shr_bd (a : Int) (k : Nat) (ha : -2147483648 ≤ a ∧ a ≤ 2147483647) : -2147483648 ≤ a / 2 ^ k ∧ a / 2 ^ k ≤ 2147483647 := by
  have hp : (0 : Int) < 2 ^ k := Int.pow_pos (by omega)
  constructor
  · refine (Int.le_ediv_iff_mul_le hp).2 ?_
    have := Int.mul_le_mul_of_nonneg_left (show (1 : Int) ≤ 2 ^ k by omega) (show (0 : Int) ≤ 2147483648 by omega)
    omega
  · refine Int.le_trans (b := max a 0) ?_ (by omega)
    refine Int.ediv_le_of_le_mul hp ?_
    have := Int.mul_le_mul_of_nonneg_left (show (1 : Int) ≤ 2 ^ k by omega) (show (0 : Int) ≤ max a 0 by omega)
    omega

theorem fixqShifts_walk (a b : Int) (w : World) (ha : -2147483648 ≤ a ∧ a ≤ 2147483647) (hb : -9223372036854775808 ≤ b ∧ b ≤ 9223372036854775807) :
    Calls Try.prog 4 #[.int .i32 a, .int .i64 b] w fun e w' => e = .returned (.bool true) ∧ Below w.heap.size w w' := by
  have hs := shl_bd a b ha
  by_cases hn : b < 0
  · have key : ∀ c : Int, 0 < c → c ≤ 31 → pt (-b) = pt c → (shiftv a b == sat (a / 2 ^ pt c)) = true := by
      intro c _ _ hc
      rw [shiftv, if_pos hn, hc, sat_id _ (shr_bd a _ ha)]; simp
    by_cases hm : b < -31
    · have H := Lib.hid (key 31 (by omega) (by omega) (by grind [pt]))
      clear key
      go_enter Try.func4, Try.ntmps4
      go_wp2_with fail
      refine (awake_any _).mono ?_
      rintro e w1 ⟨rfl, hb1⟩
      go_wp2_with fail
      refine (power_any _ _).mono ?_
      rintro e w' ⟨rfl, rfl⟩
      go_wp2_with fail
      refine (rsat_any _ _).mono ?_
      rintro e w' ⟨rfl, rfl⟩
      go_wp2_with fail
      refine (power_any _ _).mono ?_
      rintro e w' ⟨rfl, rfl⟩
      go_wp2_with fail
      refine (down_any _ _ _ (by omega) (pow_bd _).1).mono ?_
      rintro e w' ⟨rfl, rfl⟩
      go_wp2_with fail
      refine (rsat_any _ _).mono ?_
      rintro e w' ⟨rfl, rfl⟩
      go_wp2_with fail
      refine (shift_any _ _ _ ha).mono ?_
      rintro e w' ⟨rfl, rfl⟩
      go_wp2_with fail
      go_ret
      exact ⟨ret_bool H.out, hb1⟩
    · have H := Lib.hid (key (-b) (by omega) (by omega) rfl)
      clear key
      go_enter Try.func4, Try.ntmps4
      go_wp2_with fail
      refine (awake_any _).mono ?_
      rintro e w1 ⟨rfl, hb1⟩
      go_wp2_with fail
      refine (power_any _ _).mono ?_
      rintro e w' ⟨rfl, rfl⟩
      go_wp2_with fail
      refine (rsat_any _ _).mono ?_
      rintro e w' ⟨rfl, rfl⟩
      by_cases hm1 : -31 < b
      all_goals
        go_wp2_with fail
        refine (power_any _ _).mono ?_
        rintro e w' ⟨rfl, rfl⟩
        go_wp2_with fail
        refine (down_any _ _ _ (by omega) (pow_bd _).1).mono ?_
        rintro e w' ⟨rfl, rfl⟩
        go_wp2_with fail
        refine (rsat_any _ _).mono ?_
        rintro e w' ⟨rfl, rfl⟩
        go_wp2_with fail
        refine (shift_any _ _ _ ha).mono ?_
        rintro e w' ⟨rfl, rfl⟩
        go_wp2_with fail
        go_ret
        refine ⟨ret_bool ?_, hb1⟩
        first | exact H.out | (have := H.out; rw [show b = -31 by omega] at *; exact this)
  · go_enter Try.func4, Try.ntmps4
    go_wp2_with fail
    refine (awake_any _).mono ?_
    rintro e w1 ⟨rfl, hb1⟩
    go_wp2_with fail
    refine (power_any _ _).mono ?_
    rintro e w' ⟨rfl, rfl⟩
    go_wp2_with fail
    refine (rsat_any _ _).mono ?_
    rintro e w' ⟨rfl, rfl⟩
    go_wp2_with fail
    refine (shift_any _ _ _ ha).mono ?_
    rintro e w' ⟨rfl, rfl⟩
    go_wp2_with fail
    go_ret
    exact ⟨ret_bool (by rw [shiftv, if_neg (by omega)]; simp), hb1⟩

theorem fixqTimes_walk (a b q : Int) (w : World) (ha : -2147483648 ≤ a ∧ a ≤ 2147483647) (hb : -2147483648 ≤ b ∧ b ≤ 2147483647) (_hq : -9223372036854775808 ≤ q ∧ q ≤ 9223372036854775807) :
    Calls Try.prog 6 #[.int .i32 a, .int .i32 b, .int .i64 q] w fun e w' => e = .returned (.bool true) ∧ Below w.heap.size w w' := by
  have hs := shl_bd a q ha
  have hd := tdiv_bd _ b hs
  have hm := mul_bd a b ha hb
  have hp := pow_bd q
  by_cases hb0 : b = 0
  · subst hb0
    clear hd hm
    rcases (show 0 < a ∨ a < 0 ∨ a = 0 by omega) with h1 | h1 | h1
    · go_enter Try.func6, Try.ntmps6
      go_wp2_with (first
        | (go_at_call 11; refine (awake_any _).mono ?_; rintro e w1 ⟨rfl, hb1⟩)
        | (go_at_call 18; refine (power_any _ _).mono ?_; rintro e w' ⟨rfl, rfl⟩)
        | (go_at_call 13; refine (rsat_any _ _).mono ?_; rintro e w' ⟨rfl, rfl⟩)
        | (go_at_call 19; refine (down_any _ _ _ (by omega) (by omega)).mono ?_; rintro e w' ⟨rfl, rfl⟩)
        | (go_at_call 22; refine (mul_any _ _ _ _ (by omega) (by omega)).mono ?_; rintro e w' ⟨rfl, rfl⟩)
        | (go_at_call 23; refine (div_any _ _ _ _ (by omega) (by omega)).mono ?_; rintro e w' ⟨rfl, rfl⟩))
      go_ret
      exact ⟨ret_bool (by simp [divv, h1]), by assumption⟩
    · go_enter Try.func6, Try.ntmps6
      go_wp2_with (first
        | (go_at_call 11; refine (awake_any _).mono ?_; rintro e w1 ⟨rfl, hb1⟩)
        | (go_at_call 18; refine (power_any _ _).mono ?_; rintro e w' ⟨rfl, rfl⟩)
        | (go_at_call 13; refine (rsat_any _ _).mono ?_; rintro e w' ⟨rfl, rfl⟩)
        | (go_at_call 19; refine (down_any _ _ _ (by omega) (by omega)).mono ?_; rintro e w' ⟨rfl, rfl⟩)
        | (go_at_call 22; refine (mul_any _ _ _ _ (by omega) (by omega)).mono ?_; rintro e w' ⟨rfl, rfl⟩)
        | (go_at_call 23; refine (div_any _ _ _ _ (by omega) (by omega)).mono ?_; rintro e w' ⟨rfl, rfl⟩))
      go_ret
      exact ⟨ret_bool (by simp [divv, h1]; omega), by assumption⟩
    · subst h1
      go_enter Try.func6, Try.ntmps6
      go_wp2_with (first
        | (go_at_call 11; refine (awake_any _).mono ?_; rintro e w1 ⟨rfl, hb1⟩)
        | (go_at_call 18; refine (power_any _ _).mono ?_; rintro e w' ⟨rfl, rfl⟩)
        | (go_at_call 13; refine (rsat_any _ _).mono ?_; rintro e w' ⟨rfl, rfl⟩)
        | (go_at_call 19; refine (down_any _ _ _ (by omega) (by omega)).mono ?_; rintro e w' ⟨rfl, rfl⟩)
        | (go_at_call 22; refine (mul_any _ _ _ _ (by omega) (by omega)).mono ?_; rintro e w' ⟨rfl, rfl⟩)
        | (go_at_call 23; refine (div_any _ _ _ _ (by omega) (by omega)).mono ?_; rintro e w' ⟨rfl, rfl⟩))
      go_ret
      exact ⟨ret_bool (by simp [divv]), by assumption⟩
  · have hb1 : (b == 0) = false := by simpa using hb0
    go_enter Try.func6, Try.ntmps6
    go_wp2_with (first
      | (go_at_call 11; refine (awake_any _).mono ?_; rintro e w1 ⟨rfl, hb1⟩)
      | (go_at_call 18; refine (power_any _ _).mono ?_; rintro e w' ⟨rfl, rfl⟩)
      | (go_at_call 13; refine (rsat_any _ _).mono ?_; rintro e w' ⟨rfl, rfl⟩)
      | (go_at_call 19; refine (down_any _ _ _ (by omega) (by omega)).mono ?_; rintro e w' ⟨rfl, rfl⟩)
      | (go_at_call 22; refine (mul_any _ _ _ _ (by omega) (by omega)).mono ?_; rintro e w' ⟨rfl, rfl⟩)
      | (go_at_call 23; refine (div_any _ _ _ _ (by omega) (by omega)).mono ?_; rintro e w' ⟨rfl, rfl⟩))
    go_ret
    exact ⟨ret_bool (by simp [divv, hb0]), by assumption⟩

theorem fixqRoots_walk (n : Int) (w : World) (hn : -9223372036854775808 ≤ n ∧ n ≤ 9223372036854775807) :
    Calls Try.prog 7 #[.int .i64 n] w fun e w' => e = .returned (.bool true) ∧ Below w.heap.size w w' := by
  go_enter Try.func7, Try.ntmps7
  go_wp2_with fail
  refine (awake_any _).mono ?_
  rintro e w1 ⟨rfl, hb1⟩
  go_wp2_with fail
  refine (root_any _ _).mono ?_
  rintro e w' ⟨⟨r, ⟨h1, h2, h3, h4, h5⟩, rfl⟩, rfl⟩
  by_cases hneg : n < 0
  · obtain rfl := h1 hneg
    go_wp2_with fail
    go_ret
    exact ⟨rfl, hb1⟩
  · have h6 := h4 (by omega)
    have h7 := sq_bd r h2 h3
    by_cases hr : r = 2147483647
    · subst hr
      clear h1 h4 h5
      go_wp2_with fail
      go_ret
      exact ⟨rfl, hb1⟩
    · have h8 : n < (r + 1) * (r + 1) := by rcases h5 with h | h <;> omega
      have h9 := sq_bd (r + 1) (by omega) (by omega)
      have h10 : (r == 2147483647) = false := by simpa using hr
      clear h1 h4 h5
      go_wp2_with fail
      go_ret
      exact ⟨ret_bool (by simp), hb1⟩
end Go.Proofs.Ytklfkopfgiafcaa
