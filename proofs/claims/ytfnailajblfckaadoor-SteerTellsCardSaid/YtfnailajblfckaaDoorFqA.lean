/- The contracts of the package fixq and of the reference's small functions, each function walked once. -/
import Derived.Test.YtfnailajblfckaaDoorMem
namespace Go.Proofs.YtfnailajblfckaaDoor
set_option linter.unusedSimpArgs false
set_option linter.unusedVariables false
set_option linter.unnecessarySimpa false
set_option linter.unusedSectionVars false
open Go.RowKit

/-- Saturated within 32 bits. -/
def sat (n : Int) : Int := if n < -2147483648 then -2147483648 else if 2147483647 < n then 2147483647 else n

theorem sat_bd (n : Int) : -2147483648 ≤ sat n ∧ sat n ≤ 2147483647 := by unfold sat; split <;> (try split) <;> omega

theorem sat_any (n : Int) (w : World) :
    Calls Tryd.prog 27 #[.int .i64 n] w fun e w' => e = .returned (.int .i32 (sat n)) ∧ w = w' := by
  go_enter Tryd.func27, Tryd.ntmps27
  go_wp2
  all_goals (go_ret; refine ⟨ret_int ?_, rfl⟩; grind [sat])

theorem rsat_any (n : Int) (w : World) :
    Calls Tryd.prog 14 #[.int .i64 n] w fun e w' => e = .returned (.int .i32 (sat n)) ∧ w = w' := by
  go_enter Tryd.func14, Tryd.ntmps14
  go_wp2
  all_goals (go_ret; refine ⟨ret_int ?_, rfl⟩; grind [sat])

/-- How many bits behind the point. -/
def pt (q : Int) : Nat := if q < 0 then 0 else if 31 < q then 31 else q.toNat
theorem pt_le (q : Int) : pt q ≤ 31 := by unfold pt; split <;> (try split) <;> omega

theorem point_any (q : Int) (w : World) :
    Calls Tryd.prog 44 #[.int .i64 q] w fun e w' => e = .returned (.int .i64 (pt q : Nat)) ∧ w = w' := by
  go_enter Tryd.func44, Tryd.ntmps44
  go_wp2
  all_goals (go_ret; refine ⟨ret_int ?_, rfl⟩; grind [pt])

theorem sub_any (a b : Int) (w : World) (ha : -2147483648 ≤ a ∧ a ≤ 2147483647) (hb : -2147483648 ≤ b ∧ b ≤ 2147483647) :
    Calls Tryd.prog 37 #[.int .i32 a, .int .i32 b] w fun e w' => e = .returned (.int .i32 (sat (a - b))) ∧ w = w' := by
  go_enter Tryd.func37, Tryd.ntmps37
  go_wp2_with (go_at_call 27; refine (sat_any _ _).mono ?_; rintro e w' ⟨rfl, rfl⟩)
  go_ret
  exact ⟨rfl, rfl⟩

theorem neg_any (a : Int) (w : World) (ha : -2147483648 ≤ a ∧ a ≤ 2147483647) :
    Calls Tryd.prog 45 #[.int .i32 a] w fun e w' => e = .returned (.int .i32 (sat (-a))) ∧ w = w' := by
  go_enter Tryd.func45, Tryd.ntmps45
  go_wp2_with (go_at_call 27; refine (sat_any _ _).mono ?_; rintro e w' ⟨rfl, rfl⟩)
  go_ret
  exact ⟨rfl, rfl⟩

def absv (a : Int) : Int := sat (if a < 0 then -a else a)
def clampv (a l h : Int) : Int := if a < l then l else if h < a then h else a
def divv (a b q : Int) : Int := if b = 0 then (if 0 < a then 2147483647 else if a < 0 then -2147483648 else 0) else sat ((a * 2 ^ pt q).tdiv b)
def shiftv (a by_ : Int) : Int := if by_ < 0 then a / 2 ^ pt (-by_) else sat (a * 2 ^ pt by_)

theorem abs_any (a : Int) (w : World) (ha : -2147483648 ≤ a ∧ a ≤ 2147483647) :
    Calls Tryd.prog 42 #[.int .i32 a] w fun e w' => e = .returned (.int .i32 (absv a)) ∧ w = w' := by
  go_enter Tryd.func42, Tryd.ntmps42
  go_wp2_with (go_at_call 45; refine (neg_any _ _ ha).mono ?_; rintro e w' ⟨rfl, rfl⟩)
  all_goals (go_ret; refine ⟨ret_int ?_, rfl⟩; grind [sat, absv])

theorem clamp_any (a l h : Int) (w : World) :
    Calls Tryd.prog 26 #[.int .i32 a, .int .i32 l, .int .i32 h] w fun e w' => e = .returned (.int .i32 (clampv a l h)) ∧ w = w' := by
  go_enter Tryd.func26, Tryd.ntmps26
  go_wp2
  all_goals (go_ret; refine ⟨ret_int ?_, rfl⟩; grind [clampv])

theorem mul_bd (a b : Int) (ha : -2147483648 ≤ a ∧ a ≤ 2147483647) (hb : -2147483648 ≤ b ∧ b ≤ 2147483647) : -4611686018427387904 ≤ a * b ∧ a * b ≤ 4611686018427387904 := by
  have h1 : a.natAbs ≤ 2147483648 := by omega
  have h2 : b.natAbs ≤ 2147483648 := by omega
  have h3 : (a * b).natAbs ≤ 2147483648 * 2147483648 := by rw [Int.natAbs_mul]; exact Nat.mul_le_mul h1 h2
  omega

theorem mul_any (a b q : Int) (w : World) (ha : -2147483648 ≤ a ∧ a ≤ 2147483647) (hb : -2147483648 ≤ b ∧ b ≤ 2147483647) :
    Calls Tryd.prog 39 #[.int .i32 a, .int .i32 b, .int .i64 q] w fun e w' => e = .returned (.int .i32 (sat (a * b / 2 ^ pt q))) ∧ w = w' := by
  have hm := mul_bd a b ha hb
  have hp := pt_le q
  go_enter Tryd.func39, Tryd.ntmps39
  go_wp2_with (first | (go_at_call 27; refine (sat_any _ _).mono ?_; rintro e w' ⟨rfl, rfl⟩) | (go_at_call 44; refine (point_any _ _).mono ?_; rintro e w' ⟨rfl, rfl⟩))
  go_ret
  exact ⟨rfl, rfl⟩

theorem pow_bdN (k : Nat) (h : k ≤ 31) : (1 : Int) ≤ 2 ^ k ∧ (2 : Int) ^ k ≤ 2147483648 := by
  constructor
  · have := Int.pow_pos (n := 2) (m := k) (by omega)
    omega
  · have h2 : (2 : Nat) ^ k ≤ 2 ^ 31 := Nat.pow_le_pow_right (by omega) h
    have h3 : (((2 : Nat) ^ k : Nat) : Int) = (2 : Int) ^ k := by simp
    omega
theorem pow_bd (q : Int) : (1 : Int) ≤ 2 ^ pt q ∧ (2 : Int) ^ pt q ≤ 2147483648 := pow_bdN _ (pt_le q)

theorem shl_bd (a q : Int) (ha : -2147483648 ≤ a ∧ a ≤ 2147483647) : -4611686018427387904 ≤ a * 2 ^ pt q ∧ a * 2 ^ pt q ≤ 4611686018427387904 := by
  have hp := pow_bd q
  have h1 : a.natAbs ≤ 2147483648 := by omega
  have h2 : ((2 : Int) ^ pt q).natAbs ≤ 2147483648 := by omega
  have h3 : (a * 2 ^ pt q).natAbs ≤ 2147483648 * 2147483648 := by rw [Int.natAbs_mul]; exact Nat.mul_le_mul h1 h2
  omega

theorem tdiv_bd (x b : Int) (h : -4611686018427387904 ≤ x ∧ x ≤ 4611686018427387904) : -4611686018427387904 ≤ x.tdiv b ∧ x.tdiv b ≤ 4611686018427387904 := by
  have h3 : (x.tdiv b).natAbs ≤ x.natAbs := by rw [Int.natAbs_tdiv]; exact Nat.div_le_self _ _
  omega

theorem down_eq (n d : Int) (hd : 1 ≤ d) : n / d = if n.tmod d < 0 then n.tdiv d - 1 else n.tdiv d := by
  have h1 := Int.emod_nonneg n (b := d) (by omega)
  have h2 := Int.emod_lt_of_pos n (b := d) (by omega)
  have h3 : d.sign = 1 := Int.sign_eq_one_of_pos (by omega)
  rw [Int.tdiv_eq_ediv, Int.tmod_eq_emod, h3]
  by_cases h : 0 ≤ n ∨ d ∣ n
  · rw [if_pos h, if_pos h, if_neg (by omega)]; omega
  · rw [if_neg h, if_neg h, if_pos (by omega)]; omega

theorem down_any (n d : Int) (w : World) (hn : -4611686018427387904 ≤ n ∧ n ≤ 4611686018427387904) (hd : 1 ≤ d) :
    Calls Tryd.prog 30 #[.int .i64 n, .int .i64 d] w fun e w' => e = .returned (.int .i64 (n / d)) ∧ w = w' := by
  have hb := tdiv_bd n d hn
  have he := down_eq n d hd
  have H := Lib.hid he
  clear he
  go_enter Tryd.func30, Tryd.ntmps30
  go_wp2
  all_goals
    go_ret
    exact ⟨ret_int (by rw [H.out]; grind), rfl⟩

/-- The greatest whose square is at most n; 0 below 0. -/
def IsRoot (n r : Int) : Prop := (n < 0 → r = 0) ∧ 0 ≤ r ∧ r ≤ 2147483647 ∧ (0 ≤ n → r * r ≤ n) ∧ (r = 2147483647 ∨ n < (r + 1) * (r + 1))

theorem sq_bd (z : Int) (h : 0 ≤ z) (h2 : z ≤ 2147483647) : 0 ≤ z * z ∧ z * z ≤ 4611686018427387904 := by
  refine ⟨Int.mul_nonneg h h, ?_⟩
  have := Int.mul_le_mul h2 h2 h (by omega)
  omega

theorem root_end (n x : Int) (hx : 0 ≤ x) (hy : x ≤ 2147483647) (h1 : x = 0 ∨ x * x ≤ n) (h2 : x = 2147483647 ∨ n < (x + 1) * (x + 1)) : IsRoot n x := by
  have := Int.mul_nonneg hx hx
  refine ⟨fun hn => ?_, hx, hy, fun hn => ?_, h2⟩
  · omega
  · rcases h1 with rfl | h1
    · omega
    · exact h1

theorem root_any (n : Int) (w : World) :
    Calls Tryd.prog 43 #[.int .i64 n] w fun e w' => (∃ r, IsRoot n r ∧ e = .returned (.int .i32 r)) ∧ w = w' := by
  go_enter Tryd.func43, Tryd.ntmps43
  go_wp2
  go_loop [3, 4] (fun l h => ∃ x y : Int, 0 ≤ x ∧ x ≤ y ∧ y ≤ 2147483647 ∧ l = .int .i64 x ∧ h = .int .i64 y ∧ (x = 0 ∨ x * x ≤ n) ∧ (y = 2147483647 ∨ n < (y + 1) * (y + 1))) (fun l h => (intOf h - intOf l).toNat)
  case atStart => exact ⟨0, 2147483647, by omega, by omega, by omega, rfl, rfl, .inl rfl, .inl rfl⟩
  case round =>
    obtain ⟨x, y, hx, hxy, hy, rfl, rfl, h1, h2⟩ := hrel
    have hz := sq_bd ((x + y + 1) / 2) (by omega) (by omega)
    have he : y ≤ x → IsRoot n x := fun h => root_end n x hx (by omega) h1 (by rw [show x = y by omega]; exact h2)
    have H1 := Lib.hid h1
    have H2 := Lib.hid h2
    have HE := Lib.hid he
    clear h1 h2 he
    go_wp2
    all_goals first
      | (go_round
         case rel => exact ⟨_, _, by omega, by omega, by omega, rfl, rfl, by first | exact H1.out | (right; assumption), by first | exact H2.out | (right; rw [Int.sub_add_cancel]; assumption)⟩
         case measure => simp only [intOf]; omega)
      | (go_ret; exact ⟨⟨x, HE.out (by omega), rfl⟩, rfl⟩)

theorem sum_take_succ (zs : List Int) (k : Nat) : (zs.take (k + 1)).sum = (zs.take k).sum + zs.getD k 0 := by
  rw [List.take_add_one, List.sum_append]
  by_cases h : k < zs.length
  · simp [h]
  · simp [List.getElem?_eq_none (Nat.le_of_not_lt h), List.getD]

theorem sum_take_bd (zs : List Int) (hz : ∀ z ∈ zs, -2147483648 ≤ z ∧ z ≤ 2147483647) (k : Nat) : -2147483648 * (k : Int) ≤ (zs.take k).sum ∧ (zs.take k).sum ≤ 2147483647 * (k : Int) := by
  induction k with
  | zero => simp
  | succ k ih =>
    rw [sum_take_succ]
    have : -2147483648 ≤ zs.getD k 0 ∧ zs.getD k 0 ≤ 2147483647 := by
      by_cases h : k < zs.length
      · have := hz zs[k] (List.getElem_mem h)
        simpa [List.getD, h] using this
      · simp [List.getD, List.getElem?_eq_none (Nat.le_of_not_lt h)]
    omega

end Go.Proofs.YtfnailajblfckaaDoor
