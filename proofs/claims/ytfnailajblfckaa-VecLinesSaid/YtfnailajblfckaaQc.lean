/- The laws of layer 2, by reckoning: lines. -/
import Derived.Test.YtfnailajblfckaaQb
namespace Go.Proofs.Ytfnailajblfckaa
set_option linter.unusedSimpArgs false
set_option linter.unusedVariables false
set_option linter.unnecessarySimpa false
set_option maxRecDepth 100000
open Go.RowKit

def Sm (x : Int) : Prop := -9999 ≤ x ∧ x ≤ 9999
theorem sm_prod {a b : Int} (ha : Sm a) (hb : Sm b) : -99980001 ≤ a * b ∧ a * b ≤ 99980001 := by
  unfold Sm at ha hb
  have := prod_b a b 9999 9999 (by omega) (by omega)
  omega
theorem sm_sum {a b : Int} (ha : Sm a) (hb : Sm b) : sat (a + b) = a + b := by
  unfold Sm at ha hb
  exact sat_id _ ⟨by omega, by omega⟩
theorem sm_ssum {a b c : Int} (ha : -1000000000 ≤ a ∧ a ≤ 1000000000) (hb : -1000000000 ≤ b ∧ b ≤ 1000000000) (hc : -1000000000 ≤ c ∧ c ≤ 1000000000) : ssum [a, b, c] = a + b + c :=
  ssum3_plain a b c (by omega) (by omega) (by omega)
theorem line_dot {x0 x1 x2 y0 y1 y2 z0 z1 z2 : Int} (hx0 : Sm x0) (hx1 : Sm x1) (hx2 : Sm x2) (hy0 : Sm y0) (hy1 : Sm y1) (hy2 : Sm y2) (hz0 : Sm z0) (hz1 : Sm z1) (hz2 : Sm z2) :
    ssum [sat (x0 + y0) * z0, sat (x1 + y1) * z1, sat (x2 + y2) * z2] = ssum [x0 * z0, x1 * z1, x2 * z2] + ssum [y0 * z0, y1 * z1, y2 * z2] ∧ (-1000000000 ≤ ssum [x0 * z0, x1 * z1, x2 * z2] ∧ ssum [x0 * z0, x1 * z1, x2 * z2] ≤ 1000000000) ∧ (-1000000000 ≤ ssum [y0 * z0, y1 * z1, y2 * z2] ∧ ssum [y0 * z0, y1 * z1, y2 * z2] ≤ 1000000000) := by
  have p0 := sm_prod hx0 hz0
  have p1 := sm_prod hx1 hz1
  have p2 := sm_prod hx2 hz2
  have q0 := sm_prod hy0 hz0
  have q1 := sm_prod hy1 hz1
  have q2 := sm_prod hy2 hz2
  have r0 : sat (x0 + y0) * z0 = x0 * z0 + y0 * z0 := by rw [sm_sum hx0 hy0, Int.add_mul]
  have r1 : sat (x1 + y1) * z1 = x1 * z1 + y1 * z1 := by rw [sm_sum hx1 hy1, Int.add_mul]
  have r2 : sat (x2 + y2) * z2 = x2 * z2 + y2 * z2 := by rw [sm_sum hx2 hy2, Int.add_mul]
  rw [r0, r1, r2]
  clear r0 r1 r2
  generalize x0 * z0 = u0 at *
  generalize x1 * z1 = u1 at *
  generalize x2 * z2 = u2 at *
  generalize y0 * z0 = v0 at *
  generalize y1 * z1 = v1 at *
  generalize y2 * z2 = v2 at *
  rw [sm_ssum (a := u0) (by omega) (by omega) (by omega), sm_ssum (a := v0) (by omega) (by omega) (by omega), sm_ssum (a := u0 + v0) (by omega) (by omega) (by omega)]
  omega
theorem line_crs {a b a' b' c d : Int} (ha : Sm a) (hb : Sm b) (ha' : Sm a') (hb' : Sm b') (hc : Sm c) (hd : Sm d) :
    crs (sat (a + a')) (sat (b + b')) c d 0 = sat (crs a b c d 0 + crs a' b' c d 0) := by
  have p0 := sm_prod ha hd
  have p1 := sm_prod hb hc
  have p2 := sm_prod ha' hd
  have p3 := sm_prod hb' hc
  rw [sm_sum ha ha', sm_sum hb hb']
  unfold Sm at ha hb ha' hb' hc hd
  rw [crs0 (a + a') _ _ _ (by omega) (by omega) (by omega) (by omega), crs0 a b c d (by omega) (by omega) (by omega) (by omega), crs0 a' b' c d (by omega) (by omega) (by omega) (by omega)]
  rw [Int.add_mul, Int.add_mul]
  rw [sat_id _ ⟨by omega, by omega⟩]
  omega
theorem line_one (a : Int) (ha : I32 a) : sat (a * 1 / 2 ^ pt 0) = a := by
  rw [show pt 0 = 0 by rfl, Int.pow_zero, Int.ediv_one, Int.mul_one]
  exact sat_id _ ha
theorem line_sub {x y : Int} (hy : Sm y) : sat (x - y) = sat (x + sat (-y)) := by
  unfold Sm at hy
  rw [sat_id (-y) ⟨by omega, by omega⟩]
  rfl
theorem line_zero (a b c : Int) : ssum [a * 0, b * 0, c * 0] = 0 := by simp; decide
theorem v3_congr {a b c a' b' c' : Int} (h0 : a = a') (h1 : b = b') (h2 : c = c') : [Value.int .i32 a, .int .i32 b, .int .i32 c] = [.int .i32 a', .int .i32 b', .int .i32 c'] := by rw [h0, h1, h2]
theorem v3_eq {a b c a' b' c' : Int} (h0 : a = a') (h1 : b = b') (h2 : c = c') : cellEq [SV.int .i32 a, .int .i32 b, .int .i32 c] [.int .i32 a', .int .i32 b', .int .i32 c'] := ⟨h0, h1, h2, trivial⟩
set_option maxHeartbeats 4000000 in
theorem vecLines_ret (a0 a1 a2 b0 b1 b2 c0 c1 c2 : Int) (w : World) (ha0 : I32 a0) (ha1 : I32 a1) (ha2 : I32 a2) (hb0 : I32 b0) (hb1 : I32 b1) (hb2 : I32 b2) (hc0 : I32 c0) (hc1 : I32 c1) (hc2 : I32 c2) :
    RetS Try.prog 8 [v3 a0 a1 a2, v3 b0 b1 b2, v3 c0 c1 c2] w (.lit true) := by
  have e0 : sat (a0 + b0 + c0) = sat (c0 + a0 + b0) := by congr 1; omega
  have e1 : sat (a1 + b1 + c1) = sat (c1 + a1 + b1) := by congr 1; omega
  have e2 : sat (a2 + b2 + c2) = sat (c2 + a2 + b2) := by congr 1; omega
  have t0 := tmod_bd a0 10000 (by omega)
  have t1 := tmod_bd a1 10000 (by omega)
  have t2 := tmod_bd a2 10000 (by omega)
  have t3 := tmod_bd b0 10000 (by omega)
  have t4 := tmod_bd b1 10000 (by omega)
  have t5 := tmod_bd b2 10000 (by omega)
  have t6 := tmod_bd c0 10000 (by omega)
  have t7 := tmod_bd c1 10000 (by omega)
  have t8 := tmod_bd c2 10000 (by omega)
  have s0 : Sm (a0.tmod 10000) := ⟨by omega, by omega⟩
  have s1 : Sm (a1.tmod 10000) := ⟨by omega, by omega⟩
  have s2 : Sm (a2.tmod 10000) := ⟨by omega, by omega⟩
  have s3 : Sm (b0.tmod 10000) := ⟨by omega, by omega⟩
  have s4 : Sm (b1.tmod 10000) := ⟨by omega, by omega⟩
  have s5 : Sm (b2.tmod 10000) := ⟨by omega, by omega⟩
  have s6 : Sm (c0.tmod 10000) := ⟨by omega, by omega⟩
  have s7 : Sm (c1.tmod 10000) := ⟨by omega, by omega⟩
  have s8 : Sm (c2.tmod 10000) := ⟨by omega, by omega⟩
  have hd := line_dot s0 s1 s2 s3 s4 s5 s6 s7 s8
  have Hd := Lib.hid hd
  have hd1 := hd.2
  clear hd
  have i32z := z32
  refine ret_x tab_ok Try.func8 rfl Try.ntmps8 (by rfl) ?_; simp only [argX, Nat.reduceAdd, Nat.zero_add]; conv => whnf
  repeat' (first
    | (fail)
    | (refine run_c tab_ok ?_; conv => whnf)
    | (refine side_i (by first | rfl | exact ⟨rfl, rfl, rfl, rfl⟩ | trivial | (simp [allOne, partsOne, Value.cells, Value.oneCell']; done) | fail) ?_; conv => whnf)
    | (refine ar_in (by (first | (simp only [Int.reduceAdd, Int.reduceSub, Int.reduceMul, Int.reduceNeg, Int.reduceMod, Int.reduceDiv, Int.reduceTMod, Int.reduceTDiv, Int.zero_add, Int.add_zero]; done) | (simp only [Int.reduceAdd, Int.reduceSub, Int.reduceMul, Int.reduceNeg, Int.reduceMod, Int.reduceDiv, Int.reduceTMod, Int.reduceTDiv, Int.zero_add, Int.add_zero]; rfl) | rfl)) (by (dsimp only [inR]; omega)) ?_; conv => whnf)
    | (refine new_i ?_; intro _; conv => whnf)
    | (refine br_t (by first | with_reducible exact v3_eq e0 e1 e2 | with_reducible exact v3_eq (line_one _ ha0) (line_one _ ha1) (line_one _ ha2) | with_reducible exact v3_eq (line_sub (by assumption)) (line_sub (by assumption)) (line_sub (by assumption)) | with_reducible exact v3_eq (line_crs s1 s2 s4 s5 s7 s8) (line_crs s2 s0 s5 s3 s8 s6) (line_crs s0 s1 s3 s4 s6 s7) | with_reducible exact Hd.out.1 | with_reducible exact line_zero _ _ _ | omega | fail) ?_; conv => whnf)
    | (refine br_f (by first | omega | (simp only [cellEq, toB]; omega) | (simp only [cellEq, toB]; simp; done) | fail) ?_; conv => whnf)
    | ((refine br_any (fun h => ?_) (fun h => ?_) <;> (try simp only [cellEq, toB, Bool.not_eq_true, Bool.not_eq_false] at h) <;> (try (exfalso; first | omega | contradiction | (simp at h; done) | fail); done) <;> conv => whnf))
    | (refine ix_lit (by omega) (by (first | (simp only [Nat.zero_add, Nat.add_zero, Nat.mul_one, Nat.reduceAdd, Nat.reduceMul, Int.reduceToNat, Int.toNat_natCast, Int.toNat_zero, Int.toNat_one, Nat.zero_mul]; done) | (simp only [Nat.zero_add, Nat.add_zero, Nat.mul_one, Nat.reduceAdd, Nat.reduceMul, Int.reduceToNat, Int.toNat_natCast, Int.toNat_zero, Int.toNat_one, Nat.zero_mul]; rfl) | rfl)) (by rfl) ?_; conv => whnf)
    | (refine ix_sym (by omega) ?_; conv => whnf)
    | (first | (refine lcall_ret (fun w' hl => awake2_S w') ?_; conv => whnf) | (refine lcall_ret (fun w' hl => vsub_S _ _ _ _ _ _ w' (by first | assumption | exact sat_i32 _ | exact crs_i32 _ _ _ _ _ | exact i32_of (by omega) (by omega)) (by first | assumption | exact sat_i32 _ | exact crs_i32 _ _ _ _ _ | exact i32_of (by omega) (by omega)) (by first | assumption | exact sat_i32 _ | exact crs_i32 _ _ _ _ _ | exact i32_of (by omega) (by omega)) (by first | assumption | exact sat_i32 _ | exact crs_i32 _ _ _ _ _ | exact i32_of (by omega) (by omega)) (by first | assumption | exact sat_i32 _ | exact crs_i32 _ _ _ _ _ | exact i32_of (by omega) (by omega)) (by first | assumption | exact sat_i32 _ | exact crs_i32 _ _ _ _ _ | exact i32_of (by omega) (by omega))) ?_; conv => whnf) | (refine lcall_ret (fun w' hl => vneg_S _ _ _ w' (by first | assumption | exact sat_i32 _ | exact crs_i32 _ _ _ _ _ | exact i32_of (by omega) (by omega)) (by first | assumption | exact sat_i32 _ | exact crs_i32 _ _ _ _ _ | exact i32_of (by omega) (by omega)) (by first | assumption | exact sat_i32 _ | exact crs_i32 _ _ _ _ _ | exact i32_of (by omega) (by omega))) ?_; conv => whnf) | (refine lcall_ret (fun w' hl => vscale_S _ _ _ _ _ w' (by first | assumption | exact sat_i32 _ | exact crs_i32 _ _ _ _ _ | exact i32_of (by omega) (by omega)) (by first | assumption | exact sat_i32 _ | exact crs_i32 _ _ _ _ _ | exact i32_of (by omega) (by omega)) (by first | assumption | exact sat_i32 _ | exact crs_i32 _ _ _ _ _ | exact i32_of (by omega) (by omega)) (by first | assumption | exact sat_i32 _ | exact crs_i32 _ _ _ _ _ | exact i32_of (by omega) (by omega))) ?_; conv => whnf) | (refine lcall_ret (fun w' hl => vcross_S _ _ _ _ _ _ _ w' (by first | assumption | exact sat_i32 _ | exact crs_i32 _ _ _ _ _ | exact i32_of (by omega) (by omega)) (by first | assumption | exact sat_i32 _ | exact crs_i32 _ _ _ _ _ | exact i32_of (by omega) (by omega)) (by first | assumption | exact sat_i32 _ | exact crs_i32 _ _ _ _ _ | exact i32_of (by omega) (by omega)) (by first | assumption | exact sat_i32 _ | exact crs_i32 _ _ _ _ _ | exact i32_of (by omega) (by omega)) (by first | assumption | exact sat_i32 _ | exact crs_i32 _ _ _ _ _ | exact i32_of (by omega) (by omega)) (by first | assumption | exact sat_i32 _ | exact crs_i32 _ _ _ _ _ | exact i32_of (by omega) (by omega))) ?_; conv => whnf) | (refine lcall_ret (fun w' hl => vdot_S _ _ _ _ _ _ w' (by first | assumption | exact sat_i32 _ | exact crs_i32 _ _ _ _ _ | exact i32_of (by omega) (by omega)) (by first | assumption | exact sat_i32 _ | exact crs_i32 _ _ _ _ _ | exact i32_of (by omega) (by omega)) (by first | assumption | exact sat_i32 _ | exact crs_i32 _ _ _ _ _ | exact i32_of (by omega) (by omega)) (by first | assumption | exact sat_i32 _ | exact crs_i32 _ _ _ _ _ | exact i32_of (by omega) (by omega)) (by first | assumption | exact sat_i32 _ | exact crs_i32 _ _ _ _ _ | exact i32_of (by omega) (by omega)) (by first | assumption | exact sat_i32 _ | exact crs_i32 _ _ _ _ _ | exact i32_of (by omega) (by omega))) ?_; conv => whnf) | (refine lcall_ret (fun w' hl => vzero_S _ _ _ w') ?_; conv => whnf) | (refine lcall_ret (fun w' hl => vadd3_C (vrT (vs := [⟨_, _, _⟩, ⟨_, _, _⟩, ⟨_, _, _⟩]) hl (by rfl) (by rfl)) (by first | assumption | exact sat_i32 _ | exact crs_i32 _ _ _ _ _ | exact i32_of (by omega) (by omega)) (by first | assumption | exact sat_i32 _ | exact crs_i32 _ _ _ _ _ | exact i32_of (by omega) (by omega)) (by first | assumption | exact sat_i32 _ | exact crs_i32 _ _ _ _ _ | exact i32_of (by omega) (by omega)) (by first | assumption | exact sat_i32 _ | exact crs_i32 _ _ _ _ _ | exact i32_of (by omega) (by omega)) (by first | assumption | exact sat_i32 _ | exact crs_i32 _ _ _ _ _ | exact i32_of (by omega) (by omega)) (by first | assumption | exact sat_i32 _ | exact crs_i32 _ _ _ _ _ | exact i32_of (by omega) (by omega)) (by first | assumption | exact sat_i32 _ | exact crs_i32 _ _ _ _ _ | exact i32_of (by omega) (by omega)) (by first | assumption | exact sat_i32 _ | exact crs_i32 _ _ _ _ _ | exact i32_of (by omega) (by omega)) (by first | assumption | exact sat_i32 _ | exact crs_i32 _ _ _ _ _ | exact i32_of (by omega) (by omega))) ?_; conv => whnf) | (refine lcall_ret (fun w' hl => vadd2_C (vrT (vs := [⟨_, _, _⟩, ⟨_, _, _⟩]) hl (by rfl) (by rfl)) (by first | assumption | exact sat_i32 _ | exact crs_i32 _ _ _ _ _ | exact i32_of (by omega) (by omega)) (by first | assumption | exact sat_i32 _ | exact crs_i32 _ _ _ _ _ | exact i32_of (by omega) (by omega)) (by first | assumption | exact sat_i32 _ | exact crs_i32 _ _ _ _ _ | exact i32_of (by omega) (by omega)) (by first | assumption | exact sat_i32 _ | exact crs_i32 _ _ _ _ _ | exact i32_of (by omega) (by omega)) (by first | assumption | exact sat_i32 _ | exact crs_i32 _ _ _ _ _ | exact i32_of (by omega) (by omega)) (by first | assumption | exact sat_i32 _ | exact crs_i32 _ _ _ _ _ | exact i32_of (by omega) (by omega))) ?_; conv => whnf) | (refine lcall_ret (fun w' hl => vadd0_S w' _) ?_; conv => whnf) | (refine lcall_ret (fun w' hl => power_S _ w') ?_; conv => whnf) | (refine lcall_ret (fun w' hl => down_S w' _ _ (by omega) hp.1) ?_; conv => whnf) | (refine lcall_ret (fun w' hl => rsat_S w' _) ?_; conv => whnf))
    | (refine ex_z (by (first | (simp only [Int.reduceAdd, Int.reduceSub, Int.reduceMul, Int.reduceNeg, Int.reduceMod, Int.reduceDiv, Int.reduceTMod, Int.reduceTDiv, Int.zero_add, Int.add_zero]; done) | (simp only [Int.reduceAdd, Int.reduceSub, Int.reduceMul, Int.reduceNeg, Int.reduceMod, Int.reduceDiv, Int.reduceTMod, Int.reduceTDiv, Int.zero_add, Int.add_zero]; rfl) | rfl)) ?_; conv => whnf)
    | (refine sh_z (by omega) (by (first | (simp only [Int.reduceAdd, Int.reduceSub, Int.reduceMul, Int.reduceNeg, Int.reduceMod, Int.reduceDiv, Int.reduceTMod, Int.reduceTDiv, Int.zero_add, Int.add_zero]; done) | (simp only [Int.reduceAdd, Int.reduceSub, Int.reduceMul, Int.reduceNeg, Int.reduceMod, Int.reduceDiv, Int.reduceTMod, Int.reduceTDiv, Int.zero_add, Int.add_zero]; rfl) | rfl)) ?_; conv => whnf)
    | (refine quo_in (by omega) (by (first | (simp only [Int.reduceAdd, Int.reduceSub, Int.reduceMul, Int.reduceNeg, Int.reduceMod, Int.reduceDiv, Int.reduceTMod, Int.reduceTDiv, Int.zero_add, Int.add_zero]; done) | (simp only [Int.reduceAdd, Int.reduceSub, Int.reduceMul, Int.reduceNeg, Int.reduceMod, Int.reduceDiv, Int.reduceTMod, Int.reduceTDiv, Int.zero_add, Int.add_zero]; rfl) | rfl)) (by (dsimp only [inR]; omega)) ?_; conv => whnf)
    | (refine rem_in (by omega) (by (first | (simp only [Int.reduceAdd, Int.reduceSub, Int.reduceMul, Int.reduceNeg, Int.reduceMod, Int.reduceDiv, Int.reduceTMod, Int.reduceTDiv, Int.zero_add, Int.add_zero]; done) | (simp only [Int.reduceAdd, Int.reduceSub, Int.reduceMul, Int.reduceNeg, Int.reduceMod, Int.reduceDiv, Int.reduceTMod, Int.reduceTDiv, Int.zero_add, Int.add_zero]; rfl) | rfl)) ?_; conv => whnf)
    | (refine rem_t (by omega) ?_; conv => whnf)
    | (refine quo_t (by omega) (by (dsimp only [inR]; omega)) ?_; conv => whnf)
    | (refine app_i (by (first | (simp only [Nat.zero_add, Nat.add_zero, Nat.mul_one, Nat.reduceAdd, Nat.reduceMul, Int.reduceToNat, Int.toNat_natCast, Int.toNat_zero, Int.toNat_one, Nat.zero_mul]; done) | (simp only [Nat.zero_add, Nat.add_zero, Nat.mul_one, Nat.reduceAdd, Nat.reduceMul, Int.reduceToNat, Int.toNat_natCast, Int.toNat_zero, Int.toNat_one, Nat.zero_mul]; rfl) | rfl)) (by (first | (simp only [List.nil_append, List.cons_append, List.append_nil]; done) | (simp only [List.nil_append, List.cons_append, List.append_nil]; rfl) | rfl)) (by omega) (by omega) ?_; intro _ _; conv => whnf)
    | (refine load_old _ (by with_reducible assumption) (by simp; done) ?_; conv => whnf)
    | (refine x_rnd ?_)
    | (refine x_rnd' ?_)
    | (first | (refine x_drw tab_ok (id := 7) [] [7, 8, 9] [0, 1, 2, 3, 4, 5, 6, 7, 8, 9, 10, 11, 12, 13, 14, 15, 16, 17, 18, 19, 20] followsMixed (by kernel_rfl) (by rfl) (by rfl) ?_; conv => whnf) | (refine x_drw tab_ok (id := 9) [] [] [0, 1, 2, 3, 4, 5, 6, 7, 8, 9, 10, 11, 12, 13, 14, 15, 16, 17, 18, 19, 20, 21, 22, 23, 24, 25, 26, 27, 28, 29, 30, 31, 32, 33, 34, 35, 36, 37, 38, 39, 40, 41, 42, 43, 44, 45, 46, 47, 48, 49, 50, 51, 52, 53, 54, 55, 56, 57, 58, 59, 60, 61, 62, 63, 64, 65, 66, 67] followsMixed (by kernel_rfl) (by rfl) (by rfl) ?_; conv => whnf)))
  refine x_rounds 4 ?_
  repeat' (first
    | (fail)
    | (refine run_c tab_ok ?_; conv => whnf)
    | (refine side_i (by first | rfl | exact ⟨rfl, rfl, rfl, rfl⟩ | trivial | (simp [allOne, partsOne, Value.cells, Value.oneCell']; done) | fail) ?_; conv => whnf)
    | (refine ar_in (by (first | (simp only [Int.reduceAdd, Int.reduceSub, Int.reduceMul, Int.reduceNeg, Int.reduceMod, Int.reduceDiv, Int.reduceTMod, Int.reduceTDiv, Int.zero_add, Int.add_zero]; done) | (simp only [Int.reduceAdd, Int.reduceSub, Int.reduceMul, Int.reduceNeg, Int.reduceMod, Int.reduceDiv, Int.reduceTMod, Int.reduceTDiv, Int.zero_add, Int.add_zero]; rfl) | rfl)) (by (dsimp only [inR]; omega)) ?_; conv => whnf)
    | (refine new_i ?_; intro _; conv => whnf)
    | (refine br_t (by first | with_reducible exact v3_eq e0 e1 e2 | with_reducible exact v3_eq (line_one _ ha0) (line_one _ ha1) (line_one _ ha2) | with_reducible exact v3_eq (line_sub (by assumption)) (line_sub (by assumption)) (line_sub (by assumption)) | with_reducible exact v3_eq (line_crs s1 s2 s4 s5 s7 s8) (line_crs s2 s0 s5 s3 s8 s6) (line_crs s0 s1 s3 s4 s6 s7) | with_reducible exact Hd.out.1 | with_reducible exact line_zero _ _ _ | omega | fail) ?_; conv => whnf)
    | (refine br_f (by first | omega | (simp only [cellEq, toB]; omega) | (simp only [cellEq, toB]; simp; done) | fail) ?_; conv => whnf)
    | ((refine br_any (fun h => ?_) (fun h => ?_) <;> (try simp only [cellEq, toB, Bool.not_eq_true, Bool.not_eq_false] at h) <;> (try (exfalso; first | omega | contradiction | (simp at h; done) | fail); done) <;> conv => whnf))
    | (refine ix_lit (by omega) (by (first | (simp only [Nat.zero_add, Nat.add_zero, Nat.mul_one, Nat.reduceAdd, Nat.reduceMul, Int.reduceToNat, Int.toNat_natCast, Int.toNat_zero, Int.toNat_one, Nat.zero_mul]; done) | (simp only [Nat.zero_add, Nat.add_zero, Nat.mul_one, Nat.reduceAdd, Nat.reduceMul, Int.reduceToNat, Int.toNat_natCast, Int.toNat_zero, Int.toNat_one, Nat.zero_mul]; rfl) | rfl)) (by rfl) ?_; conv => whnf)
    | (refine ix_sym (by omega) ?_; conv => whnf)
    | (first | (refine lcall_ret (fun w' hl => awake2_S w') ?_; conv => whnf) | (refine lcall_ret (fun w' hl => vsub_S _ _ _ _ _ _ w' (by first | assumption | exact sat_i32 _ | exact crs_i32 _ _ _ _ _ | exact i32_of (by omega) (by omega)) (by first | assumption | exact sat_i32 _ | exact crs_i32 _ _ _ _ _ | exact i32_of (by omega) (by omega)) (by first | assumption | exact sat_i32 _ | exact crs_i32 _ _ _ _ _ | exact i32_of (by omega) (by omega)) (by first | assumption | exact sat_i32 _ | exact crs_i32 _ _ _ _ _ | exact i32_of (by omega) (by omega)) (by first | assumption | exact sat_i32 _ | exact crs_i32 _ _ _ _ _ | exact i32_of (by omega) (by omega)) (by first | assumption | exact sat_i32 _ | exact crs_i32 _ _ _ _ _ | exact i32_of (by omega) (by omega))) ?_; conv => whnf) | (refine lcall_ret (fun w' hl => vneg_S _ _ _ w' (by first | assumption | exact sat_i32 _ | exact crs_i32 _ _ _ _ _ | exact i32_of (by omega) (by omega)) (by first | assumption | exact sat_i32 _ | exact crs_i32 _ _ _ _ _ | exact i32_of (by omega) (by omega)) (by first | assumption | exact sat_i32 _ | exact crs_i32 _ _ _ _ _ | exact i32_of (by omega) (by omega))) ?_; conv => whnf) | (refine lcall_ret (fun w' hl => vscale_S _ _ _ _ _ w' (by first | assumption | exact sat_i32 _ | exact crs_i32 _ _ _ _ _ | exact i32_of (by omega) (by omega)) (by first | assumption | exact sat_i32 _ | exact crs_i32 _ _ _ _ _ | exact i32_of (by omega) (by omega)) (by first | assumption | exact sat_i32 _ | exact crs_i32 _ _ _ _ _ | exact i32_of (by omega) (by omega)) (by first | assumption | exact sat_i32 _ | exact crs_i32 _ _ _ _ _ | exact i32_of (by omega) (by omega))) ?_; conv => whnf) | (refine lcall_ret (fun w' hl => vcross_S _ _ _ _ _ _ _ w' (by first | assumption | exact sat_i32 _ | exact crs_i32 _ _ _ _ _ | exact i32_of (by omega) (by omega)) (by first | assumption | exact sat_i32 _ | exact crs_i32 _ _ _ _ _ | exact i32_of (by omega) (by omega)) (by first | assumption | exact sat_i32 _ | exact crs_i32 _ _ _ _ _ | exact i32_of (by omega) (by omega)) (by first | assumption | exact sat_i32 _ | exact crs_i32 _ _ _ _ _ | exact i32_of (by omega) (by omega)) (by first | assumption | exact sat_i32 _ | exact crs_i32 _ _ _ _ _ | exact i32_of (by omega) (by omega)) (by first | assumption | exact sat_i32 _ | exact crs_i32 _ _ _ _ _ | exact i32_of (by omega) (by omega))) ?_; conv => whnf) | (refine lcall_ret (fun w' hl => vdot_S _ _ _ _ _ _ w' (by first | assumption | exact sat_i32 _ | exact crs_i32 _ _ _ _ _ | exact i32_of (by omega) (by omega)) (by first | assumption | exact sat_i32 _ | exact crs_i32 _ _ _ _ _ | exact i32_of (by omega) (by omega)) (by first | assumption | exact sat_i32 _ | exact crs_i32 _ _ _ _ _ | exact i32_of (by omega) (by omega)) (by first | assumption | exact sat_i32 _ | exact crs_i32 _ _ _ _ _ | exact i32_of (by omega) (by omega)) (by first | assumption | exact sat_i32 _ | exact crs_i32 _ _ _ _ _ | exact i32_of (by omega) (by omega)) (by first | assumption | exact sat_i32 _ | exact crs_i32 _ _ _ _ _ | exact i32_of (by omega) (by omega))) ?_; conv => whnf) | (refine lcall_ret (fun w' hl => vzero_S _ _ _ w') ?_; conv => whnf) | (refine lcall_ret (fun w' hl => vadd3_C (vrT (vs := [⟨_, _, _⟩, ⟨_, _, _⟩, ⟨_, _, _⟩]) hl (by rfl) (by rfl)) (by first | assumption | exact sat_i32 _ | exact crs_i32 _ _ _ _ _ | exact i32_of (by omega) (by omega)) (by first | assumption | exact sat_i32 _ | exact crs_i32 _ _ _ _ _ | exact i32_of (by omega) (by omega)) (by first | assumption | exact sat_i32 _ | exact crs_i32 _ _ _ _ _ | exact i32_of (by omega) (by omega)) (by first | assumption | exact sat_i32 _ | exact crs_i32 _ _ _ _ _ | exact i32_of (by omega) (by omega)) (by first | assumption | exact sat_i32 _ | exact crs_i32 _ _ _ _ _ | exact i32_of (by omega) (by omega)) (by first | assumption | exact sat_i32 _ | exact crs_i32 _ _ _ _ _ | exact i32_of (by omega) (by omega)) (by first | assumption | exact sat_i32 _ | exact crs_i32 _ _ _ _ _ | exact i32_of (by omega) (by omega)) (by first | assumption | exact sat_i32 _ | exact crs_i32 _ _ _ _ _ | exact i32_of (by omega) (by omega)) (by first | assumption | exact sat_i32 _ | exact crs_i32 _ _ _ _ _ | exact i32_of (by omega) (by omega))) ?_; conv => whnf) | (refine lcall_ret (fun w' hl => vadd2_C (vrT (vs := [⟨_, _, _⟩, ⟨_, _, _⟩]) hl (by rfl) (by rfl)) (by first | assumption | exact sat_i32 _ | exact crs_i32 _ _ _ _ _ | exact i32_of (by omega) (by omega)) (by first | assumption | exact sat_i32 _ | exact crs_i32 _ _ _ _ _ | exact i32_of (by omega) (by omega)) (by first | assumption | exact sat_i32 _ | exact crs_i32 _ _ _ _ _ | exact i32_of (by omega) (by omega)) (by first | assumption | exact sat_i32 _ | exact crs_i32 _ _ _ _ _ | exact i32_of (by omega) (by omega)) (by first | assumption | exact sat_i32 _ | exact crs_i32 _ _ _ _ _ | exact i32_of (by omega) (by omega)) (by first | assumption | exact sat_i32 _ | exact crs_i32 _ _ _ _ _ | exact i32_of (by omega) (by omega))) ?_; conv => whnf) | (refine lcall_ret (fun w' hl => vadd0_S w' _) ?_; conv => whnf) | (refine lcall_ret (fun w' hl => power_S _ w') ?_; conv => whnf) | (refine lcall_ret (fun w' hl => down_S w' _ _ (by omega) hp.1) ?_; conv => whnf) | (refine lcall_ret (fun w' hl => rsat_S w' _) ?_; conv => whnf))
    | (refine ex_z (by (first | (simp only [Int.reduceAdd, Int.reduceSub, Int.reduceMul, Int.reduceNeg, Int.reduceMod, Int.reduceDiv, Int.reduceTMod, Int.reduceTDiv, Int.zero_add, Int.add_zero]; done) | (simp only [Int.reduceAdd, Int.reduceSub, Int.reduceMul, Int.reduceNeg, Int.reduceMod, Int.reduceDiv, Int.reduceTMod, Int.reduceTDiv, Int.zero_add, Int.add_zero]; rfl) | rfl)) ?_; conv => whnf)
    | (refine sh_z (by omega) (by (first | (simp only [Int.reduceAdd, Int.reduceSub, Int.reduceMul, Int.reduceNeg, Int.reduceMod, Int.reduceDiv, Int.reduceTMod, Int.reduceTDiv, Int.zero_add, Int.add_zero]; done) | (simp only [Int.reduceAdd, Int.reduceSub, Int.reduceMul, Int.reduceNeg, Int.reduceMod, Int.reduceDiv, Int.reduceTMod, Int.reduceTDiv, Int.zero_add, Int.add_zero]; rfl) | rfl)) ?_; conv => whnf)
    | (refine quo_in (by omega) (by (first | (simp only [Int.reduceAdd, Int.reduceSub, Int.reduceMul, Int.reduceNeg, Int.reduceMod, Int.reduceDiv, Int.reduceTMod, Int.reduceTDiv, Int.zero_add, Int.add_zero]; done) | (simp only [Int.reduceAdd, Int.reduceSub, Int.reduceMul, Int.reduceNeg, Int.reduceMod, Int.reduceDiv, Int.reduceTMod, Int.reduceTDiv, Int.zero_add, Int.add_zero]; rfl) | rfl)) (by (dsimp only [inR]; omega)) ?_; conv => whnf)
    | (refine rem_in (by omega) (by (first | (simp only [Int.reduceAdd, Int.reduceSub, Int.reduceMul, Int.reduceNeg, Int.reduceMod, Int.reduceDiv, Int.reduceTMod, Int.reduceTDiv, Int.zero_add, Int.add_zero]; done) | (simp only [Int.reduceAdd, Int.reduceSub, Int.reduceMul, Int.reduceNeg, Int.reduceMod, Int.reduceDiv, Int.reduceTMod, Int.reduceTDiv, Int.zero_add, Int.add_zero]; rfl) | rfl)) ?_; conv => whnf)
    | (refine rem_t (by omega) ?_; conv => whnf)
    | (refine quo_t (by omega) (by (dsimp only [inR]; omega)) ?_; conv => whnf)
    | (refine app_i (by (first | (simp only [Nat.zero_add, Nat.add_zero, Nat.mul_one, Nat.reduceAdd, Nat.reduceMul, Int.reduceToNat, Int.toNat_natCast, Int.toNat_zero, Int.toNat_one, Nat.zero_mul]; done) | (simp only [Nat.zero_add, Nat.add_zero, Nat.mul_one, Nat.reduceAdd, Nat.reduceMul, Int.reduceToNat, Int.toNat_natCast, Int.toNat_zero, Int.toNat_one, Nat.zero_mul]; rfl) | rfl)) (by (first | (simp only [List.nil_append, List.cons_append, List.append_nil]; done) | (simp only [List.nil_append, List.cons_append, List.append_nil]; rfl) | rfl)) (by omega) (by omega) ?_; intro _ _; conv => whnf)
    | (refine load_old _ (by with_reducible assumption) (by simp; done) ?_; conv => whnf)
    | (refine x_rnd ?_)
    | (refine x_rnd' ?_)
    | (first | (refine x_drw tab_ok (id := 7) [] [7, 8, 9] [0, 1, 2, 3, 4, 5, 6, 7, 8, 9, 10, 11, 12, 13, 14, 15, 16, 17, 18, 19, 20] followsMixed (by kernel_rfl) (by rfl) (by rfl) ?_; conv => whnf) | (refine x_drw tab_ok (id := 9) [] [] [0, 1, 2, 3, 4, 5, 6, 7, 8, 9, 10, 11, 12, 13, 14, 15, 16, 17, 18, 19, 20, 21, 22, 23, 24, 25, 26, 27, 28, 29, 30, 31, 32, 33, 34, 35, 36, 37, 38, 39, 40, 41, 42, 43, 44, 45, 46, 47, 48, 49, 50, 51, 52, 53, 54, 55, 56, 57, 58, 59, 60, 61, 62, 63, 64, 65, 66, 67] followsMixed (by kernel_rfl) (by rfl) (by rfl) ?_; conv => whnf)))
  all_goals (
    (refine fin_ret ?_)
    exact congrArg Value.bool (decide_eq_true (line_zero _ _ _)))
theorem vecLines_walk (a b c : List Value) (w : World) (h : skB [.i .i32, .i .i32, .i .i32] a = true) (hw : wfC a) (h' : skB [.i .i32, .i .i32, .i .i32] b = true) (hw' : wfC b) (h'' : skB [.i .i32, .i .i32, .i .i32] c = true) (hw'' : wfC c) :
    Calls Try.prog 8 #[.agg a.toArray, .agg b.toArray, .agg c.toArray] w fun e w' => e = .returned (.bool true) ∧ Below w.heap.size w w' := by
  obtain ⟨a, b, c, rfl, ha, hb, hc⟩ := v3_of h hw
  obtain ⟨a', b', c', rfl, ha', hb', hc'⟩ := v3_of h' hw'
  obtain ⟨a'', b'', c'', rfl, ha'', hb'', hc''⟩ := v3_of h'' hw''
  exact (vecLines_ret _ _ _ _ _ _ _ _ _ w ha hb hc ha' hb' hc' ha'' hb'' hc'').below
end Go.Proofs.Ytfnailajblfckaa
