/- The walk of the law FixqSmall. -/
import Derived.Test.YtklfkopfgiafcaaFqLa
import Derived.Test.YtklfkopfgiafcaaReg
import Derived.Deep.RegionHeld3
import Derived.Deep.DrawnRows
namespace Go.Proofs.Ytklfkopfgiafcaa
set_option linter.unusedSimpArgs false
set_option linter.unusedVariables false
set_option linter.unnecessarySimpa false
set_option linter.unusedSectionVars false
open Go.RowKit
attribute [local go_sem ↓] Go.wp_at_zero Go.wp_at_succ

theorem heap_new (w : World) (o : Obj) (B : Nat) (hB : w.heap.size = B) : (w.alloc o).heap[B]? = some o := by subst hB; exact heap_alloc_new _ _

theorem irow_blk {k : IntKind} {w : World} {B : Nat} {t : TypeId} {zs : List Int} (h : w.heap[B]? = some (.cells (zs.map (Value.int k)).toArray t (0, 0))) : IRow k w (some ⟨B, 0, none⟩) zs.length zs := by
  refine ⟨rfl, fun _ => ⟨_, _, rfl, fun j hj => ?_⟩⟩
  rw [Nat.zero_add, cell_of_row _ _ _ _ _ _ h]
  simp [List.getD, hj]

theorem add2_blk (a b : Int) (t : TypeId) (w : World) (B : Nat) (hB : w.heap[B]? = some (.cells #[.int .i32 a, .int .i32 b] t (0, 0))) (ha : -2147483648 ≤ a ∧ a ≤ 2147483647) (hb : -2147483648 ≤ b ∧ b ≤ 2147483647) :
    Calls Try.prog 14 #[.slice (some ⟨B, 0, none⟩) 2 2] w fun e w' => e = .returned (.int .i32 (sat (a + b))) ∧ w = w' := by
  have h := add_any _ 2 2 [a, b] _ (irow_blk (zs := [a, b]) hB) (by omega) (all2 ha hb)
  simpa using h
theorem add3_blk (a b c : Int) (t : TypeId) (w : World) (B : Nat) (hB : w.heap[B]? = some (.cells #[.int .i32 a, .int .i32 b, .int .i32 c] t (0, 0))) (ha : -2147483648 ≤ a ∧ a ≤ 2147483647) (hb : -2147483648 ≤ b ∧ b ≤ 2147483647) (hc : -2147483648 ≤ c ∧ c ≤ 2147483647) :
    Calls Try.prog 14 #[.slice (some ⟨B, 0, none⟩) 3 3] w fun e w' => e = .returned (.int .i32 (sat (a + b + c))) ∧ w = w' := by
  have h := add_any _ 3 3 [a, b, c] _ (irow_blk (zs := [a, b, c]) hB) (by omega) (all3 ha hb hc)
  simpa [Int.add_assoc] using h

set_option maxRecDepth 100000 in
set_option maxHeartbeats 2000000 in
theorem small1 (a b c : Int) (w : World) (ha : -32768 ≤ a ∧ a ≤ 32767) (hb : -32768 ≤ b ∧ b ≤ 32767) (hc : -32768 ≤ c ∧ c ≤ 32767) (ha0 : a < 0) (hb0 : b = 0) :
    Calls Try.prog 9 #[.int .i16 a, .int .i16 b, .int .i16 c] w fun e w' => e = .returned (.bool true) ∧ Below w.heap.size w w' := by
  have s1 : sat (a + b + c) = a + b + c := sat_id _ (by omega)
  have s2 : sat (a - b) = a - b := sat_id _ (by omega)
  have s3 : sat (-a) = -a := sat_id _ (by omega)
  have m1 : -1073741824 ≤ a * b ∧ a * b ≤ 1073741824 := by
    have h1 : a.natAbs ≤ 32768 := by omega
    have h2 : b.natAbs ≤ 32768 := by omega
    have h3 : (a * b).natAbs ≤ 32768 * 32768 := by rw [Int.natAbs_mul]; exact Nat.mul_le_mul h1 h2
    omega
  have s4 : sat (a * b) = a * b := sat_id _ (by omega)
  have s5 : sat (a * 8) = 8 * a := by rw [sat_id _ (by omega)]; omega
  have s6 : sat 0 = 0 := by decide
  have s9 : sat (a + -a) = 0 := by rw [Int.add_right_neg]; decide
  have s7 : sat a = a := sat_id _ (by omega)
  have p0 : pt 0 = 0 := by decide
  have p3 : pt 3 = 3 := by decide
  have h1 : shiftv a 3 = 8 * a := by rw [shiftv, if_neg (by omega), p3]; simpa using s5
  have A1 : absv a = -a := by rw [absv, if_pos ha0]; exact s3
  have hb0' : (b == 0) = true := by simpa using hb0
  clear hb0
  go_enter Try.func9, Try.ntmps9
  go_wp2_with (go_at_call 11; refine (awake_any _).mono ?_; rintro e w1 ⟨rfl, hb1⟩)
  simp only [List.append]
  refine wp_region_m 2408397430548889627246567 (fun _ => True) (by kernel_rfl) (by kernel_rfl) (True.intro) ?_
  dsimp only [List.map]
  repeat (first
    | (
      first | (refine m_pass (by rfl) ?_; dsimp only [lset, List.set]) | (refine m_move rfl (by rfl) (by rfl) ?_; dsimp only [lset, List.set, look, List.getD_cons_zero, List.getD_cons_succ]) | (refine m_assign rfl (by rfl) (by rfl) ?_; dsimp only [lset, List.set, look, List.getD_cons_zero, List.getD_cons_succ]) | (refine m_soft (by rfl) (by rfl) (fun w' hw' => by skip; dsimp only [execOp, look, List.getD_cons_zero, List.getD_cons_succ]; go_simp; (try simp only [↓Go.IntWalk.iteOmega]); (try go_bits); with_reducible rfl) ?_; dsimp only [lset, List.set]))
    | (refine m_hard (by rfl) (by rfl) ?_
       dsimp only
       go_wp2_with (first | (go_at_call 11; refine (awake_any _).mono ?_; rintro e w1 ⟨rfl, hb1⟩) | (go_at_call 14; (with_reducible show Calls _ _ #[Value.slice _ 3 3] _ _); (refine (add3_blk _ _ _ _ _ _ (by exact heap_new _ _ _ (by simp)) (by omega) (by omega) (by omega)).mono ?_); rintro e w' ⟨rfl, rfl⟩) | (go_at_call 14; (with_reducible show Calls _ _ #[Value.slice _ 2 2] _ _); (refine (add2_blk _ _ _ _ _ (by exact heap_new _ _ _ (by simp)) (by omega) (by omega)).mono ?_); rintro e w' ⟨rfl, rfl⟩) | (go_at_call 12; refine (sat_any _ _).mono ?_; rintro e w' ⟨rfl, rfl⟩) | (go_at_call 15; refine (sub_any _ _ _ (by omega) (by omega)).mono ?_; rintro e w' ⟨rfl, rfl⟩) | (go_at_call 22; refine (mul_any _ _ _ _ (by omega) (by omega)).mono ?_; rintro e w' ⟨rfl, rfl⟩) | (go_at_call 20; refine (shift_any _ _ _ (by omega)).mono ?_; rintro e w' ⟨rfl, rfl⟩) | (go_at_call 17; refine (abs_any _ _ (by omega)).mono ?_; rintro e w' ⟨rfl, rfl⟩) | (go_at_call 16; refine (neg_any _ _ (by omega)).mono ?_; rintro e w' ⟨rfl, rfl⟩) | (go_at_call 23; refine (div_any _ _ _ _ (by omega) (by omega)).mono ?_; rintro e w' ⟨rfl, rfl⟩))
       refine m_on True.intro ?_))
  refine m_nil ?_
  go_wp2
  go_ret
  exact ⟨ret_bool (by simp), ((hb1.alloc hb1.size _).alloc (by have := hb1.size; simp; omega) _).drew⟩

set_option maxRecDepth 100000 in
set_option maxHeartbeats 2000000 in
theorem small2 (a b c : Int) (w : World) (ha : -32768 ≤ a ∧ a ≤ 32767) (hb : -32768 ≤ b ∧ b ≤ 32767) (hc : -32768 ≤ c ∧ c ≤ 32767) (ha0 : a < 0) (hb0 : ¬ b = 0) :
    Calls Try.prog 9 #[.int .i16 a, .int .i16 b, .int .i16 c] w fun e w' => e = .returned (.bool true) ∧ Below w.heap.size w w' := by
  have s1 : sat (a + b + c) = a + b + c := sat_id _ (by omega)
  have s2 : sat (a - b) = a - b := sat_id _ (by omega)
  have s3 : sat (-a) = -a := sat_id _ (by omega)
  have m1 : -1073741824 ≤ a * b ∧ a * b ≤ 1073741824 := by
    have h1 : a.natAbs ≤ 32768 := by omega
    have h2 : b.natAbs ≤ 32768 := by omega
    have h3 : (a * b).natAbs ≤ 32768 * 32768 := by rw [Int.natAbs_mul]; exact Nat.mul_le_mul h1 h2
    omega
  have s4 : sat (a * b) = a * b := sat_id _ (by omega)
  have s5 : sat (a * 8) = 8 * a := by rw [sat_id _ (by omega)]; omega
  have s6 : sat 0 = 0 := by decide
  have s9 : sat (a + -a) = 0 := by rw [Int.add_right_neg]; decide
  have s7 : sat a = a := sat_id _ (by omega)
  have p0 : pt 0 = 0 := by decide
  have p3 : pt 3 = 3 := by decide
  have h1 : shiftv a 3 = 8 * a := by rw [shiftv, if_neg (by omega), p3]; simpa using s5
  have A1 : absv a = -a := by rw [absv, if_pos ha0]; exact s3
  have t1 : -2147483647 ≤ a.tdiv b ∧ a.tdiv b ≤ 2147483647 := by
    have h3 : (a.tdiv b).natAbs ≤ a.natAbs := by rw [Int.natAbs_tdiv]; exact Nat.div_le_self _ _
    omega
  have s8 : sat (a.tdiv b) = a.tdiv b := sat_id _ (by omega)
  have D : divv a b 0 = a.tdiv b := by rw [divv, if_neg hb0, p0]; simpa using s8
  clear s8
  have hb0' : (b == 0) = false := by simpa using hb0
  go_enter Try.func9, Try.ntmps9
  go_wp2_with (go_at_call 11; refine (awake_any _).mono ?_; rintro e w1 ⟨rfl, hb1⟩)
  simp only [List.append]
  refine wp_region_m 2408397430548889627246567 (fun _ => True) (by kernel_rfl) (by kernel_rfl) (True.intro) ?_
  dsimp only [List.map]
  repeat (first
    | (
      first | (refine m_pass (by rfl) ?_; dsimp only [lset, List.set]) | (refine m_move rfl (by rfl) (by rfl) ?_; dsimp only [lset, List.set, look, List.getD_cons_zero, List.getD_cons_succ]) | (refine m_assign rfl (by rfl) (by rfl) ?_; dsimp only [lset, List.set, look, List.getD_cons_zero, List.getD_cons_succ]) | (refine m_soft (by rfl) (by rfl) (fun w' hw' => by skip; dsimp only [execOp, look, List.getD_cons_zero, List.getD_cons_succ]; go_simp; (try simp only [↓Go.IntWalk.iteOmega]); (try go_bits); with_reducible rfl) ?_; dsimp only [lset, List.set]))
    | (refine m_hard (by rfl) (by rfl) ?_
       dsimp only
       go_wp2_with (first | (go_at_call 11; refine (awake_any _).mono ?_; rintro e w1 ⟨rfl, hb1⟩) | (go_at_call 14; (with_reducible show Calls _ _ #[Value.slice _ 3 3] _ _); (refine (add3_blk _ _ _ _ _ _ (by exact heap_new _ _ _ (by simp)) (by omega) (by omega) (by omega)).mono ?_); rintro e w' ⟨rfl, rfl⟩) | (go_at_call 14; (with_reducible show Calls _ _ #[Value.slice _ 2 2] _ _); (refine (add2_blk _ _ _ _ _ (by exact heap_new _ _ _ (by simp)) (by omega) (by omega)).mono ?_); rintro e w' ⟨rfl, rfl⟩) | (go_at_call 12; refine (sat_any _ _).mono ?_; rintro e w' ⟨rfl, rfl⟩) | (go_at_call 15; refine (sub_any _ _ _ (by omega) (by omega)).mono ?_; rintro e w' ⟨rfl, rfl⟩) | (go_at_call 22; refine (mul_any _ _ _ _ (by omega) (by omega)).mono ?_; rintro e w' ⟨rfl, rfl⟩) | (go_at_call 20; refine (shift_any _ _ _ (by omega)).mono ?_; rintro e w' ⟨rfl, rfl⟩) | (go_at_call 17; refine (abs_any _ _ (by omega)).mono ?_; rintro e w' ⟨rfl, rfl⟩) | (go_at_call 16; refine (neg_any _ _ (by omega)).mono ?_; rintro e w' ⟨rfl, rfl⟩) | (go_at_call 23; refine (div_any _ _ _ _ (by omega) (by omega)).mono ?_; rintro e w' ⟨rfl, rfl⟩))
       refine m_on True.intro ?_))
  refine m_nil ?_
  go_wp2
  go_ret
  exact ⟨ret_bool (by simp), ((hb1.alloc hb1.size _).alloc (by have := hb1.size; simp; omega) _).drew⟩

set_option maxRecDepth 100000 in
set_option maxHeartbeats 2000000 in
theorem small3 (a b c : Int) (w : World) (ha : -32768 ≤ a ∧ a ≤ 32767) (hb : -32768 ≤ b ∧ b ≤ 32767) (hc : -32768 ≤ c ∧ c ≤ 32767) (ha0 : 0 ≤ a) (hb0 : b = 0) :
    Calls Try.prog 9 #[.int .i16 a, .int .i16 b, .int .i16 c] w fun e w' => e = .returned (.bool true) ∧ Below w.heap.size w w' := by
  have s1 : sat (a + b + c) = a + b + c := sat_id _ (by omega)
  have s2 : sat (a - b) = a - b := sat_id _ (by omega)
  have s3 : sat (-a) = -a := sat_id _ (by omega)
  have m1 : -1073741824 ≤ a * b ∧ a * b ≤ 1073741824 := by
    have h1 : a.natAbs ≤ 32768 := by omega
    have h2 : b.natAbs ≤ 32768 := by omega
    have h3 : (a * b).natAbs ≤ 32768 * 32768 := by rw [Int.natAbs_mul]; exact Nat.mul_le_mul h1 h2
    omega
  have s4 : sat (a * b) = a * b := sat_id _ (by omega)
  have s5 : sat (a * 8) = 8 * a := by rw [sat_id _ (by omega)]; omega
  have s6 : sat 0 = 0 := by decide
  have s9 : sat (a + -a) = 0 := by rw [Int.add_right_neg]; decide
  have s7 : sat a = a := sat_id _ (by omega)
  have p0 : pt 0 = 0 := by decide
  have p3 : pt 3 = 3 := by decide
  have h1 : shiftv a 3 = 8 * a := by rw [shiftv, if_neg (by omega), p3]; simpa using s5
  have A1 : absv a = a := by rw [absv, if_neg (by omega)]; exact s7
  have hb0' : (b == 0) = true := by simpa using hb0
  clear hb0
  go_enter Try.func9, Try.ntmps9
  go_wp2_with (go_at_call 11; refine (awake_any _).mono ?_; rintro e w1 ⟨rfl, hb1⟩)
  simp only [List.append]
  refine wp_region_m 2408397430548889627246567 (fun _ => True) (by kernel_rfl) (by kernel_rfl) (True.intro) ?_
  dsimp only [List.map]
  repeat (first
    | (
      first | (refine m_pass (by rfl) ?_; dsimp only [lset, List.set]) | (refine m_move rfl (by rfl) (by rfl) ?_; dsimp only [lset, List.set, look, List.getD_cons_zero, List.getD_cons_succ]) | (refine m_assign rfl (by rfl) (by rfl) ?_; dsimp only [lset, List.set, look, List.getD_cons_zero, List.getD_cons_succ]) | (refine m_soft (by rfl) (by rfl) (fun w' hw' => by skip; dsimp only [execOp, look, List.getD_cons_zero, List.getD_cons_succ]; go_simp; (try simp only [↓Go.IntWalk.iteOmega]); (try go_bits); with_reducible rfl) ?_; dsimp only [lset, List.set]))
    | (refine m_hard (by rfl) (by rfl) ?_
       dsimp only
       go_wp2_with (first | (go_at_call 11; refine (awake_any _).mono ?_; rintro e w1 ⟨rfl, hb1⟩) | (go_at_call 14; (with_reducible show Calls _ _ #[Value.slice _ 3 3] _ _); (refine (add3_blk _ _ _ _ _ _ (by exact heap_new _ _ _ (by simp)) (by omega) (by omega) (by omega)).mono ?_); rintro e w' ⟨rfl, rfl⟩) | (go_at_call 14; (with_reducible show Calls _ _ #[Value.slice _ 2 2] _ _); (refine (add2_blk _ _ _ _ _ (by exact heap_new _ _ _ (by simp)) (by omega) (by omega)).mono ?_); rintro e w' ⟨rfl, rfl⟩) | (go_at_call 12; refine (sat_any _ _).mono ?_; rintro e w' ⟨rfl, rfl⟩) | (go_at_call 15; refine (sub_any _ _ _ (by omega) (by omega)).mono ?_; rintro e w' ⟨rfl, rfl⟩) | (go_at_call 22; refine (mul_any _ _ _ _ (by omega) (by omega)).mono ?_; rintro e w' ⟨rfl, rfl⟩) | (go_at_call 20; refine (shift_any _ _ _ (by omega)).mono ?_; rintro e w' ⟨rfl, rfl⟩) | (go_at_call 17; refine (abs_any _ _ (by omega)).mono ?_; rintro e w' ⟨rfl, rfl⟩) | (go_at_call 16; refine (neg_any _ _ (by omega)).mono ?_; rintro e w' ⟨rfl, rfl⟩) | (go_at_call 23; refine (div_any _ _ _ _ (by omega) (by omega)).mono ?_; rintro e w' ⟨rfl, rfl⟩))
       refine m_on True.intro ?_))
  refine m_nil ?_
  go_wp2
  go_ret
  exact ⟨ret_bool (by simp), ((hb1.alloc hb1.size _).alloc (by have := hb1.size; simp; omega) _).drew⟩

set_option maxRecDepth 100000 in
set_option maxHeartbeats 2000000 in
theorem small4 (a b c : Int) (w : World) (ha : -32768 ≤ a ∧ a ≤ 32767) (hb : -32768 ≤ b ∧ b ≤ 32767) (hc : -32768 ≤ c ∧ c ≤ 32767) (ha0 : 0 ≤ a) (hb0 : ¬ b = 0) :
    Calls Try.prog 9 #[.int .i16 a, .int .i16 b, .int .i16 c] w fun e w' => e = .returned (.bool true) ∧ Below w.heap.size w w' := by
  have s1 : sat (a + b + c) = a + b + c := sat_id _ (by omega)
  have s2 : sat (a - b) = a - b := sat_id _ (by omega)
  have s3 : sat (-a) = -a := sat_id _ (by omega)
  have m1 : -1073741824 ≤ a * b ∧ a * b ≤ 1073741824 := by
    have h1 : a.natAbs ≤ 32768 := by omega
    have h2 : b.natAbs ≤ 32768 := by omega
    have h3 : (a * b).natAbs ≤ 32768 * 32768 := by rw [Int.natAbs_mul]; exact Nat.mul_le_mul h1 h2
    omega
  have s4 : sat (a * b) = a * b := sat_id _ (by omega)
  have s5 : sat (a * 8) = 8 * a := by rw [sat_id _ (by omega)]; omega
  have s6 : sat 0 = 0 := by decide
  have s9 : sat (a + -a) = 0 := by rw [Int.add_right_neg]; decide
  have s7 : sat a = a := sat_id _ (by omega)
  have p0 : pt 0 = 0 := by decide
  have p3 : pt 3 = 3 := by decide
  have h1 : shiftv a 3 = 8 * a := by rw [shiftv, if_neg (by omega), p3]; simpa using s5
  have A1 : absv a = a := by rw [absv, if_neg (by omega)]; exact s7
  have t1 : -2147483647 ≤ a.tdiv b ∧ a.tdiv b ≤ 2147483647 := by
    have h3 : (a.tdiv b).natAbs ≤ a.natAbs := by rw [Int.natAbs_tdiv]; exact Nat.div_le_self _ _
    omega
  have s8 : sat (a.tdiv b) = a.tdiv b := sat_id _ (by omega)
  have D : divv a b 0 = a.tdiv b := by rw [divv, if_neg hb0, p0]; simpa using s8
  clear s8
  have hb0' : (b == 0) = false := by simpa using hb0
  go_enter Try.func9, Try.ntmps9
  go_wp2_with (go_at_call 11; refine (awake_any _).mono ?_; rintro e w1 ⟨rfl, hb1⟩)
  simp only [List.append]
  refine wp_region_m 2408397430548889627246567 (fun _ => True) (by kernel_rfl) (by kernel_rfl) (True.intro) ?_
  dsimp only [List.map]
  repeat (first
    | (
      first | (refine m_pass (by rfl) ?_; dsimp only [lset, List.set]) | (refine m_move rfl (by rfl) (by rfl) ?_; dsimp only [lset, List.set, look, List.getD_cons_zero, List.getD_cons_succ]) | (refine m_assign rfl (by rfl) (by rfl) ?_; dsimp only [lset, List.set, look, List.getD_cons_zero, List.getD_cons_succ]) | (refine m_soft (by rfl) (by rfl) (fun w' hw' => by skip; dsimp only [execOp, look, List.getD_cons_zero, List.getD_cons_succ]; go_simp; (try simp only [↓Go.IntWalk.iteOmega]); (try go_bits); with_reducible rfl) ?_; dsimp only [lset, List.set]))
    | (refine m_hard (by rfl) (by rfl) ?_
       dsimp only
       go_wp2_with (first | (go_at_call 11; refine (awake_any _).mono ?_; rintro e w1 ⟨rfl, hb1⟩) | (go_at_call 14; (with_reducible show Calls _ _ #[Value.slice _ 3 3] _ _); (refine (add3_blk _ _ _ _ _ _ (by exact heap_new _ _ _ (by simp)) (by omega) (by omega) (by omega)).mono ?_); rintro e w' ⟨rfl, rfl⟩) | (go_at_call 14; (with_reducible show Calls _ _ #[Value.slice _ 2 2] _ _); (refine (add2_blk _ _ _ _ _ (by exact heap_new _ _ _ (by simp)) (by omega) (by omega)).mono ?_); rintro e w' ⟨rfl, rfl⟩) | (go_at_call 12; refine (sat_any _ _).mono ?_; rintro e w' ⟨rfl, rfl⟩) | (go_at_call 15; refine (sub_any _ _ _ (by omega) (by omega)).mono ?_; rintro e w' ⟨rfl, rfl⟩) | (go_at_call 22; refine (mul_any _ _ _ _ (by omega) (by omega)).mono ?_; rintro e w' ⟨rfl, rfl⟩) | (go_at_call 20; refine (shift_any _ _ _ (by omega)).mono ?_; rintro e w' ⟨rfl, rfl⟩) | (go_at_call 17; refine (abs_any _ _ (by omega)).mono ?_; rintro e w' ⟨rfl, rfl⟩) | (go_at_call 16; refine (neg_any _ _ (by omega)).mono ?_; rintro e w' ⟨rfl, rfl⟩) | (go_at_call 23; refine (div_any _ _ _ _ (by omega) (by omega)).mono ?_; rintro e w' ⟨rfl, rfl⟩))
       refine m_on True.intro ?_))
  refine m_nil ?_
  go_wp2
  go_ret
  exact ⟨ret_bool (by simp), ((hb1.alloc hb1.size _).alloc (by have := hb1.size; simp; omega) _).drew⟩

theorem fixqSmall_walk (a b c : Int) (w : World) (ha : -32768 ≤ a ∧ a ≤ 32767) (hb : -32768 ≤ b ∧ b ≤ 32767) (hc : -32768 ≤ c ∧ c ≤ 32767) :
    Calls Try.prog 9 #[.int .i16 a, .int .i16 b, .int .i16 c] w fun e w' => e = .returned (.bool true) ∧ Below w.heap.size w w' := by
  by_cases ha0 : a < 0
  · by_cases hb0 : b = 0
    · exact small1 a b c w ha hb hc ha0 hb0
    · exact small2 a b c w ha hb hc ha0 hb0
  · by_cases hb0 : b = 0
    · exact small3 a b c w ha hb hc (by omega) hb0
    · exact small4 a b c w ha hb hc (by omega) hb0
end Go.Proofs.Ytklfkopfgiafcaa
