/- The contract of awake of the laws on fixq. -/
import Derived.Test.YtklfkopfgiafcaaFqB
import Derived.Outline
namespace Go.Proofs.Ytklfkopfgiafcaa
set_option linter.unusedSimpArgs false
set_option linter.unusedVariables false
set_option linter.unnecessarySimpa false
set_option linter.unusedSectionVars false
open Go.RowKit

theorem all2 {P : Int → Prop} {a b : Int} (ha : P a) (hb : P b) : ∀ z ∈ [a, b], P z := by simp [ha, hb]
theorem all3 {P : Int → Prop} {a b c : Int} (ha : P a) (hb : P b) (hc : P c) : ∀ z ∈ [a, b, c], P z := by simp [ha, hb, hc]

theorem add2_any (a b : Int) (t : TypeId) (w : World) (B : Nat) (hB : w.heap.size = B) (ha : -2147483648 ≤ a ∧ a ≤ 2147483647) (hb : -2147483648 ≤ b ∧ b ≤ 2147483647) :
    Calls Try.prog 14 #[.slice (some ⟨B, 0, none⟩) 2 2] (w.alloc (.cells #[.int .i32 a, .int .i32 b] t)) fun e w' => e = .returned (.int .i32 (sat (a + b))) ∧ (w.alloc (.cells #[.int .i32 a, .int .i32 b] t)) = w' := by
  subst hB
  have h := add_any _ 2 2 [a, b] _ (irow_new .i32 w t [a, b]) (by omega) (all2 ha hb)
  simpa using h
theorem add3_any (a b c : Int) (t : TypeId) (w : World) (B : Nat) (hB : w.heap.size = B) (ha : -2147483648 ≤ a ∧ a ≤ 2147483647) (hb : -2147483648 ≤ b ∧ b ≤ 2147483647) (hc : -2147483648 ≤ c ∧ c ≤ 2147483647) :
    Calls Try.prog 14 #[.slice (some ⟨B, 0, none⟩) 3 3] (w.alloc (.cells #[.int .i32 a, .int .i32 b, .int .i32 c] t)) fun e w' => e = .returned (.int .i32 (sat (a + b + c))) ∧ (w.alloc (.cells #[.int .i32 a, .int .i32 b, .int .i32 c] t)) = w' := by
  subst hB
  have h := add_any _ 3 3 [a, b, c] _ (irow_new .i32 w t [a, b, c]) (by omega) (all3 ha hb hc)
  simpa [Int.add_assoc] using h

theorem awake_any (w : World) :
    Calls Try.prog 11 #[] w fun e w' => e = .returned (.bool true) ∧ Below w.heap.size w w' := by
  have e1 : sat 2147483643 = 2147483643 := by decide
  have e2 : sat (-2) = -2 := by decide
  have e3 : pt 1 = 1 := by decide
  go_enter Try.func11, Try.ntmps11
  go_wp2_with fail
  refine (add3_any _ _ _ _ _ _ (by simp) (by omega) (by omega) (by omega)).mono ?_
  rintro e w' ⟨rfl, rfl⟩
  go_wp2_with fail
  refine (mul_any _ _ _ _ (by omega) (by omega)).mono ?_
  rintro e w' ⟨rfl, rfl⟩
  go_wp2_with fail
  go_ret
  exact ⟨rfl, (Below.refl _ _).alloc (Nat.le_refl _) _⟩

theorem fixqClamps_walk (a l h : Int) (w : World) (_ha : -2147483648 ≤ a ∧ a ≤ 2147483647) (_hl : -2147483648 ≤ l ∧ l ≤ 2147483647) (_hh : -2147483648 ≤ h ∧ h ≤ 2147483647) :
    Calls Try.prog 5 #[.int .i32 a, .int .i32 l, .int .i32 h] w fun e w' => e = .returned (.bool true) ∧ Below w.heap.size w w' := by
  go_enter Try.func5, Try.ntmps5
  go_wp2_with fail
  refine (awake_any _).mono ?_
  rintro e w1 ⟨rfl, hb1⟩
  go_wp2_with fail
  refine (clamp_any _ _ _ _).mono ?_
  rintro e w' ⟨rfl, rfl⟩
  go_wp2_with fail
  all_goals (go_ret; exact ⟨ret_bool (by simp; grind [clampv]), hb1⟩)
end Go.Proofs.Ytklfkopfgiafcaa
