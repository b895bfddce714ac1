/- The law of layer 23 that tells of the torque to the sun, by reckoning. -/
import Derived.Test.YtfnailajblfckaaQd
namespace Go.Proofs.Ytfnailajblfckaa
set_option linter.unusedSimpArgs false
set_option linter.unusedVariables false
set_option linter.unnecessarySimpa false
set_option maxRecDepth 100000
open Go.RowKit

/-- A part of the turn, as the document has it. -/
def turnv (i ax s0 s1 s2 : Int) : Int := if i = 0 then crs (axv ax 1) (axv ax 2) s1 s2 10 else if i = 1 then crs (axv ax 2) (axv ax 0) s2 s0 10 else crs (axv ax 0) (axv ax 1) s0 s1 10
theorem crs_l (a b : Int) : crs 0 1000 a b 10 = sat (-1000 * a / 1024) := by
  unfold crs
  rw [show pt 10 = 10 by rfl]
  congr 1
  rw [show (2:Int) ^ 10 = 1024 by rfl]
  congr 1
  omega
theorem crs_r (a b : Int) : crs 1000 0 a b 10 = sat (1000 * b / 1024) := by
  unfold crs
  rw [show pt 10 = 10 by rfl]
  congr 1
  rw [show (2:Int) ^ 10 = 1024 by rfl]
  congr 1
  omega
theorem crs_z (a b : Int) : crs 0 0 a b 10 = 0 := by
  unfold crs
  rw [show pt 10 = 10 by rfl]
  simp
  decide
theorem crs_self (a b : Int) (q : Int) : crs a b a b q = 0 := by
  unfold crs
  rw [Int.mul_comm b a, Int.sub_self, Int.zero_ediv]
  decide
theorem trq_z (kp kd q m : Int) : trq 0 kp 0 kd q m = 0 := by
  unfold trq
  rw [Int.zero_mul, Int.zero_mul, Int.zero_ediv, show sat 0 = 0 by decide, Int.sub_self, show sat 0 = 0 by decide]
  unfold clampv pos
  split
  · omega
  · split <;> omega
theorem sat_in64 (x : Int) : inR .i64 (sat x) := i32_i64 (sat_i32 x)
set_option maxHeartbeats 4000000 in
theorem rsun_S (s0 s1 s2 r0 r1 r2 ax kp kd q m : Int) (w : World) (hs0 : I32 s0) (hs1 : I32 s1) (hs2 : I32 s2) (hr0 : I32 r0) (hr1 : I32 r1) (hr2 : I32 r2) (hkp : I32 kp) (hkd : I32 kd) (hm : I32 m) (hax : inR .i64 ax) :
    RetS Try.prog 26 [v3 s0 s1 s2, v3 r0 r1 r2, i64 ax, i32 kp, i32 kd, i64 q, i32 m] w
      (v3 (trq (crs (axv ax 1) (axv ax 2) s1 s2 10) kp r0 kd q m) (trq (crs (axv ax 2) (axv ax 0) s2 s0 10) kp r1 kd q m) (trq (crs (axv ax 0) (axv ax 1) s0 s1 10) kp r2 kd q m)) := by
  have k0 := hs0
  have k1 := hs1
  have k2 := hs2
  have k3 := hr0
  have k4 := hr1
  have k5 := hr2
  have k6 := hkp
  have k7 := hkd
  have k8 := hm
  unfold I32 at k0 k1 k2 k3 k4 k5 k6 k7 k8
  rcases (show ax = 0 ∨ ax = 1 ∨ ax = 2 ∨ (ax < 0 ∨ 3 ≤ ax) by omega) with rfl | rfl | rfl | h0
  · rw [show axv 0 0 = 1000 by decide, show axv 0 1 = 0 by decide, show axv 0 2 = 0 by decide, crs_z, crs_l, crs_r]
    have u1 := sat_i32 (-1000 * s2 / 1024)
    have u2 := sat_i32 (1000 * s1 / 1024)
    have v0 := sat_i32 (0 * kp / 2 ^ pt q)
    have v1 := sat_i32 (sat (-1000 * s2 / 1024) * kp / 2 ^ pt q)
    have v2 := sat_i32 (sat (1000 * s1 / 1024) * kp / 2 ^ pt q)
    have w0 := sat_i32 (r0 * kd / 2 ^ pt q)
    have w1 := sat_i32 (r1 * kd / 2 ^ pt q)
    have w2 := sat_i32 (r2 * kd / 2 ^ pt q)
    unfold I32 at u1 u2 v0 v1 v2 w0 w1 w2
    refine ret_x tab_ok Try.func26 rfl Try.ntmps26 (by rfl) ?_; simp only [argX, Nat.reduceAdd, Nat.zero_add]; conv => whnf
    repeat' (first
      | (fail)
      | (refine run_c tab_ok ?_; conv => whnf)
      | (refine side_id ?_; refine side_i (by first | rfl | exact ⟨rfl, rfl, rfl, rfl⟩ | trivial | (simp [allOne, partsOne, Value.cells, Value.oneCell']; done) | fail) ?_; conv => whnf)
      | (refine ar_id ?_; refine ar_in (by (first | (simp only [Int.reduceAdd, Int.reduceSub, Int.reduceMul, Int.reduceNeg, Int.reduceMod, Int.reduceDiv, Int.reduceTMod, Int.reduceTDiv, Int.zero_add, Int.add_zero]; done) | (simp only [Int.reduceAdd, Int.reduceSub, Int.reduceMul, Int.reduceNeg, Int.reduceMod, Int.reduceDiv, Int.reduceTMod, Int.reduceTDiv, Int.zero_add, Int.add_zero]; rfl) | rfl)) (by first | exact sat_in64 _ | (dsimp only [inR]; first | decide | omega)) ?_; conv => whnf)
      | (refine new_i ?_; intro _; conv => whnf)
      | (refine br_id ?_; first
        | (refine br_t (by first | decide | omega | (with_reducible rfl) | fail | (simp only [cellEq, toB]; omega) | (simp only [cellEq, toB]; simp; done) | fail) ?_; conv => whnf)
        | (refine br_f (by first | decide | omega | (with_reducible exact Bool.false_ne_true) | (with_reducible refine not_not_intro ?_; fail) | (simp only [cellEq, toB]; omega) | (simp only [cellEq, toB]; simp; done) | fail) ?_; conv => whnf)
        | ((refine br_any (fun h => ?_) (fun h => ?_) <;> (try simp only [cellEq, toB, Bool.not_eq_true, Bool.not_eq_false] at h) <;> (try (exfalso; first | omega | contradiction | (simp at h; done) | fail); done) <;> conv => whnf)))
      | (refine ix_id ?_; first
        | (refine ix_lit (by first | decide | omega) (by (first | (simp only [Nat.zero_add, Nat.add_zero, Nat.mul_one, Nat.reduceAdd, Nat.reduceMul, Int.reduceToNat, Int.toNat_natCast, Int.toNat_zero, Int.toNat_one, Nat.zero_mul]; done) | (simp only [Nat.zero_add, Nat.add_zero, Nat.mul_one, Nat.reduceAdd, Nat.reduceMul, Int.reduceToNat, Int.toNat_natCast, Int.toNat_zero, Int.toNat_one, Nat.zero_mul]; rfl) | rfl)) (by rfl) ?_; conv => whnf)
        | (refine ix_sym (by omega) ?_; conv => whnf))
      | (refine lcall_id ?_; first | (refine lcall_ret (fun w' hl => rsat_S w' _) ?_; conv => whnf) | (refine lcall_ret (fun w' hl => down_S w' _ _ (by omega) (by omega)) ?_; conv => whnf) | (refine lcall_ret (fun w' hl => times_S _ _ _ w' (by first | assumption | exact sat_i32 _ | exact crs_i32 _ _ _ _ _ | exact axv_i32 _ _ | exact clampv_i32 _ _ (by assumption) | exact i32_of (by omega) (by omega)) (by first | assumption | exact sat_i32 _ | exact crs_i32 _ _ _ _ _ | exact axv_i32 _ _ | exact clampv_i32 _ _ (by assumption) | exact i32_of (by omega) (by omega))) ?_; conv => whnf) | (refine lcall_ret (fun w' hl => rclamp_S _ _ w' (by first | assumption | exact sat_i32 _ | exact crs_i32 _ _ _ _ _ | exact axv_i32 _ _ | exact clampv_i32 _ _ (by assumption) | exact i32_of (by omega) (by omega)) (i32_i64 (sat_i32 _))) ?_; conv => whnf))
      | (refine lload_id ?_; first
        | (fail)
        | (refine load_old _ (by with_reducible assumption) (by simp; done) ?_; conv => whnf))
      | (refine lixs_id ?_; fail)
      | (refine ex_id ?_; refine ex_z (by (first | (simp only [Int.reduceAdd, Int.reduceSub, Int.reduceMul, Int.reduceNeg, Int.reduceMod, Int.reduceDiv, Int.reduceTMod, Int.reduceTDiv, Int.zero_add, Int.add_zero]; done) | (simp only [Int.reduceAdd, Int.reduceSub, Int.reduceMul, Int.reduceNeg, Int.reduceMod, Int.reduceDiv, Int.reduceTMod, Int.reduceTDiv, Int.zero_add, Int.add_zero]; rfl) | rfl)) ?_; conv => whnf)
      | (refine sh_id ?_; refine sh_z (by omega) (by (first | (simp only [Int.reduceAdd, Int.reduceSub, Int.reduceMul, Int.reduceNeg, Int.reduceMod, Int.reduceDiv, Int.reduceTMod, Int.reduceTDiv, Int.zero_add, Int.add_zero]; done) | (simp only [Int.reduceAdd, Int.reduceSub, Int.reduceMul, Int.reduceNeg, Int.reduceMod, Int.reduceDiv, Int.reduceTMod, Int.reduceTDiv, Int.zero_add, Int.add_zero]; rfl) | rfl)) ?_; conv => whnf)
      | (refine quo_id ?_; first
        | (refine quo_in (by omega) (by (first | (simp only [Int.reduceAdd, Int.reduceSub, Int.reduceMul, Int.reduceNeg, Int.reduceMod, Int.reduceDiv, Int.reduceTMod, Int.reduceTDiv, Int.zero_add, Int.add_zero]; done) | (simp only [Int.reduceAdd, Int.reduceSub, Int.reduceMul, Int.reduceNeg, Int.reduceMod, Int.reduceDiv, Int.reduceTMod, Int.reduceTDiv, Int.zero_add, Int.add_zero]; rfl) | rfl)) (by first | exact sat_in64 _ | (dsimp only [inR]; first | decide | omega)) ?_; conv => whnf)
        | (refine quo_t (by omega) (by first | exact sat_in64 _ | (dsimp only [inR]; first | decide | omega)) ?_; conv => whnf))
      | (refine rem_id ?_; first
        | (refine rem_in (by omega) (by (first | (simp only [Int.reduceAdd, Int.reduceSub, Int.reduceMul, Int.reduceNeg, Int.reduceMod, Int.reduceDiv, Int.reduceTMod, Int.reduceTDiv, Int.zero_add, Int.add_zero]; done) | (simp only [Int.reduceAdd, Int.reduceSub, Int.reduceMul, Int.reduceNeg, Int.reduceMod, Int.reduceDiv, Int.reduceTMod, Int.reduceTDiv, Int.zero_add, Int.add_zero]; rfl) | rfl)) ?_; conv => whnf)
        | (refine rem_t (by omega) ?_; conv => whnf))
      | (refine app_id ?_; refine app_i (by (first | (simp only [Nat.zero_add, Nat.add_zero, Nat.mul_one, Nat.reduceAdd, Nat.reduceMul, Int.reduceToNat, Int.toNat_natCast, Int.toNat_zero, Int.toNat_one, Nat.zero_mul]; done) | (simp only [Nat.zero_add, Nat.add_zero, Nat.mul_one, Nat.reduceAdd, Nat.reduceMul, Int.reduceToNat, Int.toNat_natCast, Int.toNat_zero, Int.toNat_one, Nat.zero_mul]; rfl) | rfl)) (by (first | (simp only [List.nil_append, List.cons_append, List.append_nil]; done) | (simp only [List.nil_append, List.cons_append, List.append_nil]; rfl) | rfl)) (by omega) (by omega) ?_; intro _ _; conv => whnf)
      | (refine sl_id ?_; fail)
      | (refine eff_id ?_; fail)
      | (refine val_id ?_; fail)
      | (refine x_rnd ?_)
      | (refine x_rnd' ?_)
      | (refine xdrw_id ?_; first | (refine x_drw tab_ok (id := 10) [] [] [0, 1, 2, 3, 4, 5, 6, 7, 8, 9, 10, 11, 12, 13, 14, 15, 16] followsMixed (by kernel_rfl) (by rfl) (by rfl) ?_; conv => whnf)))
    refine x_rounds 4 ?_
    repeat' (first
      | (fail)
      | (refine run_c tab_ok ?_; conv => whnf)
      | (refine side_id ?_; refine side_i (by first | rfl | exact ⟨rfl, rfl, rfl, rfl⟩ | trivial | (simp [allOne, partsOne, Value.cells, Value.oneCell']; done) | fail) ?_; conv => whnf)
      | (refine ar_id ?_; refine ar_in (by (first | (simp only [Int.reduceAdd, Int.reduceSub, Int.reduceMul, Int.reduceNeg, Int.reduceMod, Int.reduceDiv, Int.reduceTMod, Int.reduceTDiv, Int.zero_add, Int.add_zero]; done) | (simp only [Int.reduceAdd, Int.reduceSub, Int.reduceMul, Int.reduceNeg, Int.reduceMod, Int.reduceDiv, Int.reduceTMod, Int.reduceTDiv, Int.zero_add, Int.add_zero]; rfl) | rfl)) (by first | exact sat_in64 _ | (dsimp only [inR]; first | decide | omega)) ?_; conv => whnf)
      | (refine new_i ?_; intro _; conv => whnf)
      | (refine br_id ?_; first
        | (refine br_t (by first | decide | omega | (with_reducible rfl) | fail | (simp only [cellEq, toB]; omega) | (simp only [cellEq, toB]; simp; done) | fail) ?_; conv => whnf)
        | (refine br_f (by first | decide | omega | (with_reducible exact Bool.false_ne_true) | (with_reducible refine not_not_intro ?_; fail) | (simp only [cellEq, toB]; omega) | (simp only [cellEq, toB]; simp; done) | fail) ?_; conv => whnf)
        | ((refine br_any (fun h => ?_) (fun h => ?_) <;> (try simp only [cellEq, toB, Bool.not_eq_true, Bool.not_eq_false] at h) <;> (try (exfalso; first | omega | contradiction | (simp at h; done) | fail); done) <;> conv => whnf)))
      | (refine ix_id ?_; first
        | (refine ix_lit (by first | decide | omega) (by (first | (simp only [Nat.zero_add, Nat.add_zero, Nat.mul_one, Nat.reduceAdd, Nat.reduceMul, Int.reduceToNat, Int.toNat_natCast, Int.toNat_zero, Int.toNat_one, Nat.zero_mul]; done) | (simp only [Nat.zero_add, Nat.add_zero, Nat.mul_one, Nat.reduceAdd, Nat.reduceMul, Int.reduceToNat, Int.toNat_natCast, Int.toNat_zero, Int.toNat_one, Nat.zero_mul]; rfl) | rfl)) (by rfl) ?_; conv => whnf)
        | (refine ix_sym (by omega) ?_; conv => whnf))
      | (refine lcall_id ?_; first | (refine lcall_ret (fun w' hl => rsat_S w' _) ?_; conv => whnf) | (refine lcall_ret (fun w' hl => down_S w' _ _ (by omega) (by omega)) ?_; conv => whnf) | (refine lcall_ret (fun w' hl => times_S _ _ _ w' (by first | assumption | exact sat_i32 _ | exact crs_i32 _ _ _ _ _ | exact axv_i32 _ _ | exact clampv_i32 _ _ (by assumption) | exact i32_of (by omega) (by omega)) (by first | assumption | exact sat_i32 _ | exact crs_i32 _ _ _ _ _ | exact axv_i32 _ _ | exact clampv_i32 _ _ (by assumption) | exact i32_of (by omega) (by omega))) ?_; conv => whnf) | (refine lcall_ret (fun w' hl => rclamp_S _ _ w' (by first | assumption | exact sat_i32 _ | exact crs_i32 _ _ _ _ _ | exact axv_i32 _ _ | exact clampv_i32 _ _ (by assumption) | exact i32_of (by omega) (by omega)) (i32_i64 (sat_i32 _))) ?_; conv => whnf))
      | (refine lload_id ?_; first
        | (fail)
        | (refine load_old _ (by with_reducible assumption) (by simp; done) ?_; conv => whnf))
      | (refine lixs_id ?_; fail)
      | (refine ex_id ?_; refine ex_z (by (first | (simp only [Int.reduceAdd, Int.reduceSub, Int.reduceMul, Int.reduceNeg, Int.reduceMod, Int.reduceDiv, Int.reduceTMod, Int.reduceTDiv, Int.zero_add, Int.add_zero]; done) | (simp only [Int.reduceAdd, Int.reduceSub, Int.reduceMul, Int.reduceNeg, Int.reduceMod, Int.reduceDiv, Int.reduceTMod, Int.reduceTDiv, Int.zero_add, Int.add_zero]; rfl) | rfl)) ?_; conv => whnf)
      | (refine sh_id ?_; refine sh_z (by omega) (by (first | (simp only [Int.reduceAdd, Int.reduceSub, Int.reduceMul, Int.reduceNeg, Int.reduceMod, Int.reduceDiv, Int.reduceTMod, Int.reduceTDiv, Int.zero_add, Int.add_zero]; done) | (simp only [Int.reduceAdd, Int.reduceSub, Int.reduceMul, Int.reduceNeg, Int.reduceMod, Int.reduceDiv, Int.reduceTMod, Int.reduceTDiv, Int.zero_add, Int.add_zero]; rfl) | rfl)) ?_; conv => whnf)
      | (refine quo_id ?_; first
        | (refine quo_in (by omega) (by (first | (simp only [Int.reduceAdd, Int.reduceSub, Int.reduceMul, Int.reduceNeg, Int.reduceMod, Int.reduceDiv, Int.reduceTMod, Int.reduceTDiv, Int.zero_add, Int.add_zero]; done) | (simp only [Int.reduceAdd, Int.reduceSub, Int.reduceMul, Int.reduceNeg, Int.reduceMod, Int.reduceDiv, Int.reduceTMod, Int.reduceTDiv, Int.zero_add, Int.add_zero]; rfl) | rfl)) (by first | exact sat_in64 _ | (dsimp only [inR]; first | decide | omega)) ?_; conv => whnf)
        | (refine quo_t (by omega) (by first | exact sat_in64 _ | (dsimp only [inR]; first | decide | omega)) ?_; conv => whnf))
      | (refine rem_id ?_; first
        | (refine rem_in (by omega) (by (first | (simp only [Int.reduceAdd, Int.reduceSub, Int.reduceMul, Int.reduceNeg, Int.reduceMod, Int.reduceDiv, Int.reduceTMod, Int.reduceTDiv, Int.zero_add, Int.add_zero]; done) | (simp only [Int.reduceAdd, Int.reduceSub, Int.reduceMul, Int.reduceNeg, Int.reduceMod, Int.reduceDiv, Int.reduceTMod, Int.reduceTDiv, Int.zero_add, Int.add_zero]; rfl) | rfl)) ?_; conv => whnf)
        | (refine rem_t (by omega) ?_; conv => whnf))
      | (refine app_id ?_; refine app_i (by (first | (simp only [Nat.zero_add, Nat.add_zero, Nat.mul_one, Nat.reduceAdd, Nat.reduceMul, Int.reduceToNat, Int.toNat_natCast, Int.toNat_zero, Int.toNat_one, Nat.zero_mul]; done) | (simp only [Nat.zero_add, Nat.add_zero, Nat.mul_one, Nat.reduceAdd, Nat.reduceMul, Int.reduceToNat, Int.toNat_natCast, Int.toNat_zero, Int.toNat_one, Nat.zero_mul]; rfl) | rfl)) (by (first | (simp only [List.nil_append, List.cons_append, List.append_nil]; done) | (simp only [List.nil_append, List.cons_append, List.append_nil]; rfl) | rfl)) (by omega) (by omega) ?_; intro _ _; conv => whnf)
      | (refine sl_id ?_; fail)
      | (refine eff_id ?_; fail)
      | (refine val_id ?_; fail)
      | (refine x_rnd ?_)
      | (refine x_rnd' ?_)
      | (refine xdrw_id ?_; first | (refine x_drw tab_ok (id := 10) [] [] [0, 1, 2, 3, 4, 5, 6, 7, 8, 9, 10, 11, 12, 13, 14, 15, 16] followsMixed (by kernel_rfl) (by rfl) (by rfl) ?_; conv => whnf)))
    (refine fin_ret ?_)
    rfl
  · rw [show axv 1 0 = 0 by decide, show axv 1 1 = 1000 by decide, show axv 1 2 = 0 by decide, crs_z, crs_l, crs_r]
    have u1 := sat_i32 (-1000 * s0 / 1024)
    have u2 := sat_i32 (1000 * s2 / 1024)
    have v0 := sat_i32 (0 * kp / 2 ^ pt q)
    have v1 := sat_i32 (sat (-1000 * s0 / 1024) * kp / 2 ^ pt q)
    have v2 := sat_i32 (sat (1000 * s2 / 1024) * kp / 2 ^ pt q)
    have w0 := sat_i32 (r0 * kd / 2 ^ pt q)
    have w1 := sat_i32 (r1 * kd / 2 ^ pt q)
    have w2 := sat_i32 (r2 * kd / 2 ^ pt q)
    unfold I32 at u1 u2 v0 v1 v2 w0 w1 w2
    refine ret_x tab_ok Try.func26 rfl Try.ntmps26 (by rfl) ?_; simp only [argX, Nat.reduceAdd, Nat.zero_add]; conv => whnf
    repeat' (first
      | (fail)
      | (refine run_c tab_ok ?_; conv => whnf)
      | (refine side_id ?_; refine side_i (by first | rfl | exact ⟨rfl, rfl, rfl, rfl⟩ | trivial | (simp [allOne, partsOne, Value.cells, Value.oneCell']; done) | fail) ?_; conv => whnf)
      | (refine ar_id ?_; refine ar_in (by (first | (simp only [Int.reduceAdd, Int.reduceSub, Int.reduceMul, Int.reduceNeg, Int.reduceMod, Int.reduceDiv, Int.reduceTMod, Int.reduceTDiv, Int.zero_add, Int.add_zero]; done) | (simp only [Int.reduceAdd, Int.reduceSub, Int.reduceMul, Int.reduceNeg, Int.reduceMod, Int.reduceDiv, Int.reduceTMod, Int.reduceTDiv, Int.zero_add, Int.add_zero]; rfl) | rfl)) (by first | exact sat_in64 _ | (dsimp only [inR]; first | decide | omega)) ?_; conv => whnf)
      | (refine new_i ?_; intro _; conv => whnf)
      | (refine br_id ?_; first
        | (refine br_t (by first | decide | omega | (with_reducible rfl) | fail | (simp only [cellEq, toB]; omega) | (simp only [cellEq, toB]; simp; done) | fail) ?_; conv => whnf)
        | (refine br_f (by first | decide | omega | (with_reducible exact Bool.false_ne_true) | (with_reducible refine not_not_intro ?_; fail) | (simp only [cellEq, toB]; omega) | (simp only [cellEq, toB]; simp; done) | fail) ?_; conv => whnf)
        | ((refine br_any (fun h => ?_) (fun h => ?_) <;> (try simp only [cellEq, toB, Bool.not_eq_true, Bool.not_eq_false] at h) <;> (try (exfalso; first | omega | contradiction | (simp at h; done) | fail); done) <;> conv => whnf)))
      | (refine ix_id ?_; first
        | (refine ix_lit (by first | decide | omega) (by (first | (simp only [Nat.zero_add, Nat.add_zero, Nat.mul_one, Nat.reduceAdd, Nat.reduceMul, Int.reduceToNat, Int.toNat_natCast, Int.toNat_zero, Int.toNat_one, Nat.zero_mul]; done) | (simp only [Nat.zero_add, Nat.add_zero, Nat.mul_one, Nat.reduceAdd, Nat.reduceMul, Int.reduceToNat, Int.toNat_natCast, Int.toNat_zero, Int.toNat_one, Nat.zero_mul]; rfl) | rfl)) (by rfl) ?_; conv => whnf)
        | (refine ix_sym (by omega) ?_; conv => whnf))
      | (refine lcall_id ?_; first | (refine lcall_ret (fun w' hl => rsat_S w' _) ?_; conv => whnf) | (refine lcall_ret (fun w' hl => down_S w' _ _ (by omega) (by omega)) ?_; conv => whnf) | (refine lcall_ret (fun w' hl => times_S _ _ _ w' (by first | assumption | exact sat_i32 _ | exact crs_i32 _ _ _ _ _ | exact axv_i32 _ _ | exact clampv_i32 _ _ (by assumption) | exact i32_of (by omega) (by omega)) (by first | assumption | exact sat_i32 _ | exact crs_i32 _ _ _ _ _ | exact axv_i32 _ _ | exact clampv_i32 _ _ (by assumption) | exact i32_of (by omega) (by omega))) ?_; conv => whnf) | (refine lcall_ret (fun w' hl => rclamp_S _ _ w' (by first | assumption | exact sat_i32 _ | exact crs_i32 _ _ _ _ _ | exact axv_i32 _ _ | exact clampv_i32 _ _ (by assumption) | exact i32_of (by omega) (by omega)) (i32_i64 (sat_i32 _))) ?_; conv => whnf))
      | (refine lload_id ?_; first
        | (fail)
        | (refine load_old _ (by with_reducible assumption) (by simp; done) ?_; conv => whnf))
      | (refine lixs_id ?_; fail)
      | (refine ex_id ?_; refine ex_z (by (first | (simp only [Int.reduceAdd, Int.reduceSub, Int.reduceMul, Int.reduceNeg, Int.reduceMod, Int.reduceDiv, Int.reduceTMod, Int.reduceTDiv, Int.zero_add, Int.add_zero]; done) | (simp only [Int.reduceAdd, Int.reduceSub, Int.reduceMul, Int.reduceNeg, Int.reduceMod, Int.reduceDiv, Int.reduceTMod, Int.reduceTDiv, Int.zero_add, Int.add_zero]; rfl) | rfl)) ?_; conv => whnf)
      | (refine sh_id ?_; refine sh_z (by omega) (by (first | (simp only [Int.reduceAdd, Int.reduceSub, Int.reduceMul, Int.reduceNeg, Int.reduceMod, Int.reduceDiv, Int.reduceTMod, Int.reduceTDiv, Int.zero_add, Int.add_zero]; done) | (simp only [Int.reduceAdd, Int.reduceSub, Int.reduceMul, Int.reduceNeg, Int.reduceMod, Int.reduceDiv, Int.reduceTMod, Int.reduceTDiv, Int.zero_add, Int.add_zero]; rfl) | rfl)) ?_; conv => whnf)
      | (refine quo_id ?_; first
        | (refine quo_in (by omega) (by (first | (simp only [Int.reduceAdd, Int.reduceSub, Int.reduceMul, Int.reduceNeg, Int.reduceMod, Int.reduceDiv, Int.reduceTMod, Int.reduceTDiv, Int.zero_add, Int.add_zero]; done) | (simp only [Int.reduceAdd, Int.reduceSub, Int.reduceMul, Int.reduceNeg, Int.reduceMod, Int.reduceDiv, Int.reduceTMod, Int.reduceTDiv, Int.zero_add, Int.add_zero]; rfl) | rfl)) (by first | exact sat_in64 _ | (dsimp only [inR]; first | decide | omega)) ?_; conv => whnf)
        | (refine quo_t (by omega) (by first | exact sat_in64 _ | (dsimp only [inR]; first | decide | omega)) ?_; conv => whnf))
      | (refine rem_id ?_; first
        | (refine rem_in (by omega) (by (first | (simp only [Int.reduceAdd, Int.reduceSub, Int.reduceMul, Int.reduceNeg, Int.reduceMod, Int.reduceDiv, Int.reduceTMod, Int.reduceTDiv, Int.zero_add, Int.add_zero]; done) | (simp only [Int.reduceAdd, Int.reduceSub, Int.reduceMul, Int.reduceNeg, Int.reduceMod, Int.reduceDiv, Int.reduceTMod, Int.reduceTDiv, Int.zero_add, Int.add_zero]; rfl) | rfl)) ?_; conv => whnf)
        | (refine rem_t (by omega) ?_; conv => whnf))
      | (refine app_id ?_; refine app_i (by (first | (simp only [Nat.zero_add, Nat.add_zero, Nat.mul_one, Nat.reduceAdd, Nat.reduceMul, Int.reduceToNat, Int.toNat_natCast, Int.toNat_zero, Int.toNat_one, Nat.zero_mul]; done) | (simp only [Nat.zero_add, Nat.add_zero, Nat.mul_one, Nat.reduceAdd, Nat.reduceMul, Int.reduceToNat, Int.toNat_natCast, Int.toNat_zero, Int.toNat_one, Nat.zero_mul]; rfl) | rfl)) (by (first | (simp only [List.nil_append, List.cons_append, List.append_nil]; done) | (simp only [List.nil_append, List.cons_append, List.append_nil]; rfl) | rfl)) (by omega) (by omega) ?_; intro _ _; conv => whnf)
      | (refine sl_id ?_; fail)
      | (refine eff_id ?_; fail)
      | (refine val_id ?_; fail)
      | (refine x_rnd ?_)
      | (refine x_rnd' ?_)
      | (refine xdrw_id ?_; first | (refine x_drw tab_ok (id := 10) [] [] [0, 1, 2, 3, 4, 5, 6, 7, 8, 9, 10, 11, 12, 13, 14, 15, 16] followsMixed (by kernel_rfl) (by rfl) (by rfl) ?_; conv => whnf)))
    refine x_rounds 4 ?_
    repeat' (first
      | (fail)
      | (refine run_c tab_ok ?_; conv => whnf)
      | (refine side_id ?_; refine side_i (by first | rfl | exact ⟨rfl, rfl, rfl, rfl⟩ | trivial | (simp [allOne, partsOne, Value.cells, Value.oneCell']; done) | fail) ?_; conv => whnf)
      | (refine ar_id ?_; refine ar_in (by (first | (simp only [Int.reduceAdd, Int.reduceSub, Int.reduceMul, Int.reduceNeg, Int.reduceMod, Int.reduceDiv, Int.reduceTMod, Int.reduceTDiv, Int.zero_add, Int.add_zero]; done) | (simp only [Int.reduceAdd, Int.reduceSub, Int.reduceMul, Int.reduceNeg, Int.reduceMod, Int.reduceDiv, Int.reduceTMod, Int.reduceTDiv, Int.zero_add, Int.add_zero]; rfl) | rfl)) (by first | exact sat_in64 _ | (dsimp only [inR]; first | decide | omega)) ?_; conv => whnf)
      | (refine new_i ?_; intro _; conv => whnf)
      | (refine br_id ?_; first
        | (refine br_t (by first | decide | omega | (with_reducible rfl) | fail | (simp only [cellEq, toB]; omega) | (simp only [cellEq, toB]; simp; done) | fail) ?_; conv => whnf)
        | (refine br_f (by first | decide | omega | (with_reducible exact Bool.false_ne_true) | (with_reducible refine not_not_intro ?_; fail) | (simp only [cellEq, toB]; omega) | (simp only [cellEq, toB]; simp; done) | fail) ?_; conv => whnf)
        | ((refine br_any (fun h => ?_) (fun h => ?_) <;> (try simp only [cellEq, toB, Bool.not_eq_true, Bool.not_eq_false] at h) <;> (try (exfalso; first | omega | contradiction | (simp at h; done) | fail); done) <;> conv => whnf)))
      | (refine ix_id ?_; first
        | (refine ix_lit (by first | decide | omega) (by (first | (simp only [Nat.zero_add, Nat.add_zero, Nat.mul_one, Nat.reduceAdd, Nat.reduceMul, Int.reduceToNat, Int.toNat_natCast, Int.toNat_zero, Int.toNat_one, Nat.zero_mul]; done) | (simp only [Nat.zero_add, Nat.add_zero, Nat.mul_one, Nat.reduceAdd, Nat.reduceMul, Int.reduceToNat, Int.toNat_natCast, Int.toNat_zero, Int.toNat_one, Nat.zero_mul]; rfl) | rfl)) (by rfl) ?_; conv => whnf)
        | (refine ix_sym (by omega) ?_; conv => whnf))
      | (refine lcall_id ?_; first | (refine lcall_ret (fun w' hl => rsat_S w' _) ?_; conv => whnf) | (refine lcall_ret (fun w' hl => down_S w' _ _ (by omega) (by omega)) ?_; conv => whnf) | (refine lcall_ret (fun w' hl => times_S _ _ _ w' (by first | assumption | exact sat_i32 _ | exact crs_i32 _ _ _ _ _ | exact axv_i32 _ _ | exact clampv_i32 _ _ (by assumption) | exact i32_of (by omega) (by omega)) (by first | assumption | exact sat_i32 _ | exact crs_i32 _ _ _ _ _ | exact axv_i32 _ _ | exact clampv_i32 _ _ (by assumption) | exact i32_of (by omega) (by omega))) ?_; conv => whnf) | (refine lcall_ret (fun w' hl => rclamp_S _ _ w' (by first | assumption | exact sat_i32 _ | exact crs_i32 _ _ _ _ _ | exact axv_i32 _ _ | exact clampv_i32 _ _ (by assumption) | exact i32_of (by omega) (by omega)) (i32_i64 (sat_i32 _))) ?_; conv => whnf))
      | (refine lload_id ?_; first
        | (fail)
        | (refine load_old _ (by with_reducible assumption) (by simp; done) ?_; conv => whnf))
      | (refine lixs_id ?_; fail)
      | (refine ex_id ?_; refine ex_z (by (first | (simp only [Int.reduceAdd, Int.reduceSub, Int.reduceMul, Int.reduceNeg, Int.reduceMod, Int.reduceDiv, Int.reduceTMod, Int.reduceTDiv, Int.zero_add, Int.add_zero]; done) | (simp only [Int.reduceAdd, Int.reduceSub, Int.reduceMul, Int.reduceNeg, Int.reduceMod, Int.reduceDiv, Int.reduceTMod, Int.reduceTDiv, Int.zero_add, Int.add_zero]; rfl) | rfl)) ?_; conv => whnf)
      | (refine sh_id ?_; refine sh_z (by omega) (by (first | (simp only [Int.reduceAdd, Int.reduceSub, Int.reduceMul, Int.reduceNeg, Int.reduceMod, Int.reduceDiv, Int.reduceTMod, Int.reduceTDiv, Int.zero_add, Int.add_zero]; done) | (simp only [Int.reduceAdd, Int.reduceSub, Int.reduceMul, Int.reduceNeg, Int.reduceMod, Int.reduceDiv, Int.reduceTMod, Int.reduceTDiv, Int.zero_add, Int.add_zero]; rfl) | rfl)) ?_; conv => whnf)
      | (refine quo_id ?_; first
        | (refine quo_in (by omega) (by (first | (simp only [Int.reduceAdd, Int.reduceSub, Int.reduceMul, Int.reduceNeg, Int.reduceMod, Int.reduceDiv, Int.reduceTMod, Int.reduceTDiv, Int.zero_add, Int.add_zero]; done) | (simp only [Int.reduceAdd, Int.reduceSub, Int.reduceMul, Int.reduceNeg, Int.reduceMod, Int.reduceDiv, Int.reduceTMod, Int.reduceTDiv, Int.zero_add, Int.add_zero]; rfl) | rfl)) (by first | exact sat_in64 _ | (dsimp only [inR]; first | decide | omega)) ?_; conv => whnf)
        | (refine quo_t (by omega) (by first | exact sat_in64 _ | (dsimp only [inR]; first | decide | omega)) ?_; conv => whnf))
      | (refine rem_id ?_; first
        | (refine rem_in (by omega) (by (first | (simp only [Int.reduceAdd, Int.reduceSub, Int.reduceMul, Int.reduceNeg, Int.reduceMod, Int.reduceDiv, Int.reduceTMod, Int.reduceTDiv, Int.zero_add, Int.add_zero]; done) | (simp only [Int.reduceAdd, Int.reduceSub, Int.reduceMul, Int.reduceNeg, Int.reduceMod, Int.reduceDiv, Int.reduceTMod, Int.reduceTDiv, Int.zero_add, Int.add_zero]; rfl) | rfl)) ?_; conv => whnf)
        | (refine rem_t (by omega) ?_; conv => whnf))
      | (refine app_id ?_; refine app_i (by (first | (simp only [Nat.zero_add, Nat.add_zero, Nat.mul_one, Nat.reduceAdd, Nat.reduceMul, Int.reduceToNat, Int.toNat_natCast, Int.toNat_zero, Int.toNat_one, Nat.zero_mul]; done) | (simp only [Nat.zero_add, Nat.add_zero, Nat.mul_one, Nat.reduceAdd, Nat.reduceMul, Int.reduceToNat, Int.toNat_natCast, Int.toNat_zero, Int.toNat_one, Nat.zero_mul]; rfl) | rfl)) (by (first | (simp only [List.nil_append, List.cons_append, List.append_nil]; done) | (simp only [List.nil_append, List.cons_append, List.append_nil]; rfl) | rfl)) (by omega) (by omega) ?_; intro _ _; conv => whnf)
      | (refine sl_id ?_; fail)
      | (refine eff_id ?_; fail)
      | (refine val_id ?_; fail)
      | (refine x_rnd ?_)
      | (refine x_rnd' ?_)
      | (refine xdrw_id ?_; first | (refine x_drw tab_ok (id := 10) [] [] [0, 1, 2, 3, 4, 5, 6, 7, 8, 9, 10, 11, 12, 13, 14, 15, 16] followsMixed (by kernel_rfl) (by rfl) (by rfl) ?_; conv => whnf)))
    (refine fin_ret ?_)
    rfl
  · rw [show axv 2 0 = 0 by decide, show axv 2 1 = 0 by decide, show axv 2 2 = 1000 by decide, crs_z, crs_l, crs_r]
    have u1 := sat_i32 (-1000 * s1 / 1024)
    have u2 := sat_i32 (1000 * s0 / 1024)
    have v0 := sat_i32 (0 * kp / 2 ^ pt q)
    have v1 := sat_i32 (sat (-1000 * s1 / 1024) * kp / 2 ^ pt q)
    have v2 := sat_i32 (sat (1000 * s0 / 1024) * kp / 2 ^ pt q)
    have w0 := sat_i32 (r0 * kd / 2 ^ pt q)
    have w1 := sat_i32 (r1 * kd / 2 ^ pt q)
    have w2 := sat_i32 (r2 * kd / 2 ^ pt q)
    unfold I32 at u1 u2 v0 v1 v2 w0 w1 w2
    refine ret_x tab_ok Try.func26 rfl Try.ntmps26 (by rfl) ?_; simp only [argX, Nat.reduceAdd, Nat.zero_add]; conv => whnf
    repeat' (first
      | (fail)
      | (refine run_c tab_ok ?_; conv => whnf)
      | (refine side_id ?_; refine side_i (by first | rfl | exact ⟨rfl, rfl, rfl, rfl⟩ | trivial | (simp [allOne, partsOne, Value.cells, Value.oneCell']; done) | fail) ?_; conv => whnf)
      | (refine ar_id ?_; refine ar_in (by (first | (simp only [Int.reduceAdd, Int.reduceSub, Int.reduceMul, Int.reduceNeg, Int.reduceMod, Int.reduceDiv, Int.reduceTMod, Int.reduceTDiv, Int.zero_add, Int.add_zero]; done) | (simp only [Int.reduceAdd, Int.reduceSub, Int.reduceMul, Int.reduceNeg, Int.reduceMod, Int.reduceDiv, Int.reduceTMod, Int.reduceTDiv, Int.zero_add, Int.add_zero]; rfl) | rfl)) (by first | exact sat_in64 _ | (dsimp only [inR]; first | decide | omega)) ?_; conv => whnf)
      | (refine new_i ?_; intro _; conv => whnf)
      | (refine br_id ?_; first
        | (refine br_t (by first | decide | omega | (with_reducible rfl) | fail | (simp only [cellEq, toB]; omega) | (simp only [cellEq, toB]; simp; done) | fail) ?_; conv => whnf)
        | (refine br_f (by first | decide | omega | (with_reducible exact Bool.false_ne_true) | (with_reducible refine not_not_intro ?_; fail) | (simp only [cellEq, toB]; omega) | (simp only [cellEq, toB]; simp; done) | fail) ?_; conv => whnf)
        | ((refine br_any (fun h => ?_) (fun h => ?_) <;> (try simp only [cellEq, toB, Bool.not_eq_true, Bool.not_eq_false] at h) <;> (try (exfalso; first | omega | contradiction | (simp at h; done) | fail); done) <;> conv => whnf)))
      | (refine ix_id ?_; first
        | (refine ix_lit (by first | decide | omega) (by (first | (simp only [Nat.zero_add, Nat.add_zero, Nat.mul_one, Nat.reduceAdd, Nat.reduceMul, Int.reduceToNat, Int.toNat_natCast, Int.toNat_zero, Int.toNat_one, Nat.zero_mul]; done) | (simp only [Nat.zero_add, Nat.add_zero, Nat.mul_one, Nat.reduceAdd, Nat.reduceMul, Int.reduceToNat, Int.toNat_natCast, Int.toNat_zero, Int.toNat_one, Nat.zero_mul]; rfl) | rfl)) (by rfl) ?_; conv => whnf)
        | (refine ix_sym (by omega) ?_; conv => whnf))
      | (refine lcall_id ?_; first | (refine lcall_ret (fun w' hl => rsat_S w' _) ?_; conv => whnf) | (refine lcall_ret (fun w' hl => down_S w' _ _ (by omega) (by omega)) ?_; conv => whnf) | (refine lcall_ret (fun w' hl => times_S _ _ _ w' (by first | assumption | exact sat_i32 _ | exact crs_i32 _ _ _ _ _ | exact axv_i32 _ _ | exact clampv_i32 _ _ (by assumption) | exact i32_of (by omega) (by omega)) (by first | assumption | exact sat_i32 _ | exact crs_i32 _ _ _ _ _ | exact axv_i32 _ _ | exact clampv_i32 _ _ (by assumption) | exact i32_of (by omega) (by omega))) ?_; conv => whnf) | (refine lcall_ret (fun w' hl => rclamp_S _ _ w' (by first | assumption | exact sat_i32 _ | exact crs_i32 _ _ _ _ _ | exact axv_i32 _ _ | exact clampv_i32 _ _ (by assumption) | exact i32_of (by omega) (by omega)) (i32_i64 (sat_i32 _))) ?_; conv => whnf))
      | (refine lload_id ?_; first
        | (fail)
        | (refine load_old _ (by with_reducible assumption) (by simp; done) ?_; conv => whnf))
      | (refine lixs_id ?_; fail)
      | (refine ex_id ?_; refine ex_z (by (first | (simp only [Int.reduceAdd, Int.reduceSub, Int.reduceMul, Int.reduceNeg, Int.reduceMod, Int.reduceDiv, Int.reduceTMod, Int.reduceTDiv, Int.zero_add, Int.add_zero]; done) | (simp only [Int.reduceAdd, Int.reduceSub, Int.reduceMul, Int.reduceNeg, Int.reduceMod, Int.reduceDiv, Int.reduceTMod, Int.reduceTDiv, Int.zero_add, Int.add_zero]; rfl) | rfl)) ?_; conv => whnf)
      | (refine sh_id ?_; refine sh_z (by omega) (by (first | (simp only [Int.reduceAdd, Int.reduceSub, Int.reduceMul, Int.reduceNeg, Int.reduceMod, Int.reduceDiv, Int.reduceTMod, Int.reduceTDiv, Int.zero_add, Int.add_zero]; done) | (simp only [Int.reduceAdd, Int.reduceSub, Int.reduceMul, Int.reduceNeg, Int.reduceMod, Int.reduceDiv, Int.reduceTMod, Int.reduceTDiv, Int.zero_add, Int.add_zero]; rfl) | rfl)) ?_; conv => whnf)
      | (refine quo_id ?_; first
        | (refine quo_in (by omega) (by (first | (simp only [Int.reduceAdd, Int.reduceSub, Int.reduceMul, Int.reduceNeg, Int.reduceMod, Int.reduceDiv, Int.reduceTMod, Int.reduceTDiv, Int.zero_add, Int.add_zero]; done) | (simp only [Int.reduceAdd, Int.reduceSub, Int.reduceMul, Int.reduceNeg, Int.reduceMod, Int.reduceDiv, Int.reduceTMod, Int.reduceTDiv, Int.zero_add, Int.add_zero]; rfl) | rfl)) (by first | exact sat_in64 _ | (dsimp only [inR]; first | decide | omega)) ?_; conv => whnf)
        | (refine quo_t (by omega) (by first | exact sat_in64 _ | (dsimp only [inR]; first | decide | omega)) ?_; conv => whnf))
      | (refine rem_id ?_; first
        | (refine rem_in (by omega) (by (first | (simp only [Int.reduceAdd, Int.reduceSub, Int.reduceMul, Int.reduceNeg, Int.reduceMod, Int.reduceDiv, Int.reduceTMod, Int.reduceTDiv, Int.zero_add, Int.add_zero]; done) | (simp only [Int.reduceAdd, Int.reduceSub, Int.reduceMul, Int.reduceNeg, Int.reduceMod, Int.reduceDiv, Int.reduceTMod, Int.reduceTDiv, Int.zero_add, Int.add_zero]; rfl) | rfl)) ?_; conv => whnf)
        | (refine rem_t (by omega) ?_; conv => whnf))
      | (refine app_id ?_; refine app_i (by (first | (simp only [Nat.zero_add, Nat.add_zero, Nat.mul_one, Nat.reduceAdd, Nat.reduceMul, Int.reduceToNat, Int.toNat_natCast, Int.toNat_zero, Int.toNat_one, Nat.zero_mul]; done) | (simp only [Nat.zero_add, Nat.add_zero, Nat.mul_one, Nat.reduceAdd, Nat.reduceMul, Int.reduceToNat, Int.toNat_natCast, Int.toNat_zero, Int.toNat_one, Nat.zero_mul]; rfl) | rfl)) (by (first | (simp only [List.nil_append, List.cons_append, List.append_nil]; done) | (simp only [List.nil_append, List.cons_append, List.append_nil]; rfl) | rfl)) (by omega) (by omega) ?_; intro _ _; conv => whnf)
      | (refine sl_id ?_; fail)
      | (refine eff_id ?_; fail)
      | (refine val_id ?_; fail)
      | (refine x_rnd ?_)
      | (refine x_rnd' ?_)
      | (refine xdrw_id ?_; first | (refine x_drw tab_ok (id := 10) [] [] [0, 1, 2, 3, 4, 5, 6, 7, 8, 9, 10, 11, 12, 13, 14, 15, 16] followsMixed (by kernel_rfl) (by rfl) (by rfl) ?_; conv => whnf)))
    refine x_rounds 4 ?_
    repeat' (first
      | (fail)
      | (refine run_c tab_ok ?_; conv => whnf)
      | (refine side_id ?_; refine side_i (by first | rfl | exact ⟨rfl, rfl, rfl, rfl⟩ | trivial | (simp [allOne, partsOne, Value.cells, Value.oneCell']; done) | fail) ?_; conv => whnf)
      | (refine ar_id ?_; refine ar_in (by (first | (simp only [Int.reduceAdd, Int.reduceSub, Int.reduceMul, Int.reduceNeg, Int.reduceMod, Int.reduceDiv, Int.reduceTMod, Int.reduceTDiv, Int.zero_add, Int.add_zero]; done) | (simp only [Int.reduceAdd, Int.reduceSub, Int.reduceMul, Int.reduceNeg, Int.reduceMod, Int.reduceDiv, Int.reduceTMod, Int.reduceTDiv, Int.zero_add, Int.add_zero]; rfl) | rfl)) (by first | exact sat_in64 _ | (dsimp only [inR]; first | decide | omega)) ?_; conv => whnf)
      | (refine new_i ?_; intro _; conv => whnf)
      | (refine br_id ?_; first
        | (refine br_t (by first | decide | omega | (with_reducible rfl) | fail | (simp only [cellEq, toB]; omega) | (simp only [cellEq, toB]; simp; done) | fail) ?_; conv => whnf)
        | (refine br_f (by first | decide | omega | (with_reducible exact Bool.false_ne_true) | (with_reducible refine not_not_intro ?_; fail) | (simp only [cellEq, toB]; omega) | (simp only [cellEq, toB]; simp; done) | fail) ?_; conv => whnf)
        | ((refine br_any (fun h => ?_) (fun h => ?_) <;> (try simp only [cellEq, toB, Bool.not_eq_true, Bool.not_eq_false] at h) <;> (try (exfalso; first | omega | contradiction | (simp at h; done) | fail); done) <;> conv => whnf)))
      | (refine ix_id ?_; first
        | (refine ix_lit (by first | decide | omega) (by (first | (simp only [Nat.zero_add, Nat.add_zero, Nat.mul_one, Nat.reduceAdd, Nat.reduceMul, Int.reduceToNat, Int.toNat_natCast, Int.toNat_zero, Int.toNat_one, Nat.zero_mul]; done) | (simp only [Nat.zero_add, Nat.add_zero, Nat.mul_one, Nat.reduceAdd, Nat.reduceMul, Int.reduceToNat, Int.toNat_natCast, Int.toNat_zero, Int.toNat_one, Nat.zero_mul]; rfl) | rfl)) (by rfl) ?_; conv => whnf)
        | (refine ix_sym (by omega) ?_; conv => whnf))
      | (refine lcall_id ?_; first | (refine lcall_ret (fun w' hl => rsat_S w' _) ?_; conv => whnf) | (refine lcall_ret (fun w' hl => down_S w' _ _ (by omega) (by omega)) ?_; conv => whnf) | (refine lcall_ret (fun w' hl => times_S _ _ _ w' (by first | assumption | exact sat_i32 _ | exact crs_i32 _ _ _ _ _ | exact axv_i32 _ _ | exact clampv_i32 _ _ (by assumption) | exact i32_of (by omega) (by omega)) (by first | assumption | exact sat_i32 _ | exact crs_i32 _ _ _ _ _ | exact axv_i32 _ _ | exact clampv_i32 _ _ (by assumption) | exact i32_of (by omega) (by omega))) ?_; conv => whnf) | (refine lcall_ret (fun w' hl => rclamp_S _ _ w' (by first | assumption | exact sat_i32 _ | exact crs_i32 _ _ _ _ _ | exact axv_i32 _ _ | exact clampv_i32 _ _ (by assumption) | exact i32_of (by omega) (by omega)) (i32_i64 (sat_i32 _))) ?_; conv => whnf))
      | (refine lload_id ?_; first
        | (fail)
        | (refine load_old _ (by with_reducible assumption) (by simp; done) ?_; conv => whnf))
      | (refine lixs_id ?_; fail)
      | (refine ex_id ?_; refine ex_z (by (first | (simp only [Int.reduceAdd, Int.reduceSub, Int.reduceMul, Int.reduceNeg, Int.reduceMod, Int.reduceDiv, Int.reduceTMod, Int.reduceTDiv, Int.zero_add, Int.add_zero]; done) | (simp only [Int.reduceAdd, Int.reduceSub, Int.reduceMul, Int.reduceNeg, Int.reduceMod, Int.reduceDiv, Int.reduceTMod, Int.reduceTDiv, Int.zero_add, Int.add_zero]; rfl) | rfl)) ?_; conv => whnf)
      | (refine sh_id ?_; refine sh_z (by omega) (by (first | (simp only [Int.reduceAdd, Int.reduceSub, Int.reduceMul, Int.reduceNeg, Int.reduceMod, Int.reduceDiv, Int.reduceTMod, Int.reduceTDiv, Int.zero_add, Int.add_zero]; done) | (simp only [Int.reduceAdd, Int.reduceSub, Int.reduceMul, Int.reduceNeg, Int.reduceMod, Int.reduceDiv, Int.reduceTMod, Int.reduceTDiv, Int.zero_add, Int.add_zero]; rfl) | rfl)) ?_; conv => whnf)
      | (refine quo_id ?_; first
        | (refine quo_in (by omega) (by (first | (simp only [Int.reduceAdd, Int.reduceSub, Int.reduceMul, Int.reduceNeg, Int.reduceMod, Int.reduceDiv, Int.reduceTMod, Int.reduceTDiv, Int.zero_add, Int.add_zero]; done) | (simp only [Int.reduceAdd, Int.reduceSub, Int.reduceMul, Int.reduceNeg, Int.reduceMod, Int.reduceDiv, Int.reduceTMod, Int.reduceTDiv, Int.zero_add, Int.add_zero]; rfl) | rfl)) (by first | exact sat_in64 _ | (dsimp only [inR]; first | decide | omega)) ?_; conv => whnf)
        | (refine quo_t (by omega) (by first | exact sat_in64 _ | (dsimp only [inR]; first | decide | omega)) ?_; conv => whnf))
      | (refine rem_id ?_; first
        | (refine rem_in (by omega) (by (first | (simp only [Int.reduceAdd, Int.reduceSub, Int.reduceMul, Int.reduceNeg, Int.reduceMod, Int.reduceDiv, Int.reduceTMod, Int.reduceTDiv, Int.zero_add, Int.add_zero]; done) | (simp only [Int.reduceAdd, Int.reduceSub, Int.reduceMul, Int.reduceNeg, Int.reduceMod, Int.reduceDiv, Int.reduceTMod, Int.reduceTDiv, Int.zero_add, Int.add_zero]; rfl) | rfl)) ?_; conv => whnf)
        | (refine rem_t (by omega) ?_; conv => whnf))
      | (refine app_id ?_; refine app_i (by (first | (simp only [Nat.zero_add, Nat.add_zero, Nat.mul_one, Nat.reduceAdd, Nat.reduceMul, Int.reduceToNat, Int.toNat_natCast, Int.toNat_zero, Int.toNat_one, Nat.zero_mul]; done) | (simp only [Nat.zero_add, Nat.add_zero, Nat.mul_one, Nat.reduceAdd, Nat.reduceMul, Int.reduceToNat, Int.toNat_natCast, Int.toNat_zero, Int.toNat_one, Nat.zero_mul]; rfl) | rfl)) (by (first | (simp only [List.nil_append, List.cons_append, List.append_nil]; done) | (simp only [List.nil_append, List.cons_append, List.append_nil]; rfl) | rfl)) (by omega) (by omega) ?_; intro _ _; conv => whnf)
      | (refine sl_id ?_; fail)
      | (refine eff_id ?_; fail)
      | (refine val_id ?_; fail)
      | (refine x_rnd ?_)
      | (refine x_rnd' ?_)
      | (refine xdrw_id ?_; first | (refine x_drw tab_ok (id := 10) [] [] [0, 1, 2, 3, 4, 5, 6, 7, 8, 9, 10, 11, 12, 13, 14, 15, 16] followsMixed (by kernel_rfl) (by rfl) (by rfl) ?_; conv => whnf)))
    (refine fin_ret ?_)
    rfl
  · have e0 : axv ax 0 = 0 := by rw [axv, if_neg (by omega)]
    have e1 : axv ax 1 = 0 := by rw [axv, if_neg (by omega)]
    have e2 : axv ax 2 = 0 := by rw [axv, if_neg (by omega)]
    rw [e0, e1, e2, crs_z, crs_z, crs_z]
    clear e0 e1 e2
    have v0 := sat_i32 (0 * kp / 2 ^ pt q)
    have w0 := sat_i32 (r0 * kd / 2 ^ pt q)
    have w1 := sat_i32 (r1 * kd / 2 ^ pt q)
    have w2 := sat_i32 (r2 * kd / 2 ^ pt q)
    unfold I32 at v0 w0 w1 w2
    rcases h0 with h0 | h0
    all_goals (
      refine ret_x tab_ok Try.func26 rfl Try.ntmps26 (by rfl) ?_; simp only [argX, Nat.reduceAdd, Nat.zero_add]; conv => whnf
      repeat' (first
        | (fail)
        | (refine run_c tab_ok ?_; conv => whnf)
        | (refine side_id ?_; refine side_i (by first | rfl | exact ⟨rfl, rfl, rfl, rfl⟩ | trivial | (simp [allOne, partsOne, Value.cells, Value.oneCell']; done) | fail) ?_; conv => whnf)
        | (refine ar_id ?_; refine ar_in (by (first | (simp only [Int.reduceAdd, Int.reduceSub, Int.reduceMul, Int.reduceNeg, Int.reduceMod, Int.reduceDiv, Int.reduceTMod, Int.reduceTDiv, Int.zero_add, Int.add_zero]; done) | (simp only [Int.reduceAdd, Int.reduceSub, Int.reduceMul, Int.reduceNeg, Int.reduceMod, Int.reduceDiv, Int.reduceTMod, Int.reduceTDiv, Int.zero_add, Int.add_zero]; rfl) | rfl)) (by first | exact sat_in64 _ | (dsimp only [inR]; first | decide | omega)) ?_; conv => whnf)
        | (refine new_i ?_; intro _; conv => whnf)
        | (refine br_id ?_; first
          | (refine br_t (by first | decide | omega | (with_reducible rfl) | fail | (simp only [cellEq, toB]; omega) | (simp only [cellEq, toB]; simp; done) | fail) ?_; conv => whnf)
          | (refine br_f (by first | decide | omega | (with_reducible exact Bool.false_ne_true) | (with_reducible refine not_not_intro ?_; fail) | (simp only [cellEq, toB]; omega) | (simp only [cellEq, toB]; simp; done) | fail) ?_; conv => whnf)
          | ((refine br_any (fun h => ?_) (fun h => ?_) <;> (try simp only [cellEq, toB, Bool.not_eq_true, Bool.not_eq_false] at h) <;> (try (exfalso; first | omega | contradiction | (simp at h; done) | fail); done) <;> conv => whnf)))
        | (refine ix_id ?_; first
          | (refine ix_lit (by first | decide | omega) (by (first | (simp only [Nat.zero_add, Nat.add_zero, Nat.mul_one, Nat.reduceAdd, Nat.reduceMul, Int.reduceToNat, Int.toNat_natCast, Int.toNat_zero, Int.toNat_one, Nat.zero_mul]; done) | (simp only [Nat.zero_add, Nat.add_zero, Nat.mul_one, Nat.reduceAdd, Nat.reduceMul, Int.reduceToNat, Int.toNat_natCast, Int.toNat_zero, Int.toNat_one, Nat.zero_mul]; rfl) | rfl)) (by rfl) ?_; conv => whnf)
          | (refine ix_sym (by omega) ?_; conv => whnf))
        | (refine lcall_id ?_; first | (refine lcall_ret (fun w' hl => rsat_S w' _) ?_; conv => whnf) | (refine lcall_ret (fun w' hl => down_S w' _ _ (by omega) (by omega)) ?_; conv => whnf) | (refine lcall_ret (fun w' hl => times_S _ _ _ w' (by first | assumption | exact sat_i32 _ | exact crs_i32 _ _ _ _ _ | exact axv_i32 _ _ | exact clampv_i32 _ _ (by assumption) | exact i32_of (by omega) (by omega)) (by first | assumption | exact sat_i32 _ | exact crs_i32 _ _ _ _ _ | exact axv_i32 _ _ | exact clampv_i32 _ _ (by assumption) | exact i32_of (by omega) (by omega))) ?_; conv => whnf) | (refine lcall_ret (fun w' hl => rclamp_S _ _ w' (by first | assumption | exact sat_i32 _ | exact crs_i32 _ _ _ _ _ | exact axv_i32 _ _ | exact clampv_i32 _ _ (by assumption) | exact i32_of (by omega) (by omega)) (i32_i64 (sat_i32 _))) ?_; conv => whnf))
        | (refine lload_id ?_; first
          | (fail)
          | (refine load_old _ (by with_reducible assumption) (by simp; done) ?_; conv => whnf))
        | (refine lixs_id ?_; fail)
        | (refine ex_id ?_; refine ex_z (by (first | (simp only [Int.reduceAdd, Int.reduceSub, Int.reduceMul, Int.reduceNeg, Int.reduceMod, Int.reduceDiv, Int.reduceTMod, Int.reduceTDiv, Int.zero_add, Int.add_zero]; done) | (simp only [Int.reduceAdd, Int.reduceSub, Int.reduceMul, Int.reduceNeg, Int.reduceMod, Int.reduceDiv, Int.reduceTMod, Int.reduceTDiv, Int.zero_add, Int.add_zero]; rfl) | rfl)) ?_; conv => whnf)
        | (refine sh_id ?_; refine sh_z (by omega) (by (first | (simp only [Int.reduceAdd, Int.reduceSub, Int.reduceMul, Int.reduceNeg, Int.reduceMod, Int.reduceDiv, Int.reduceTMod, Int.reduceTDiv, Int.zero_add, Int.add_zero]; done) | (simp only [Int.reduceAdd, Int.reduceSub, Int.reduceMul, Int.reduceNeg, Int.reduceMod, Int.reduceDiv, Int.reduceTMod, Int.reduceTDiv, Int.zero_add, Int.add_zero]; rfl) | rfl)) ?_; conv => whnf)
        | (refine quo_id ?_; first
          | (refine quo_in (by omega) (by (first | (simp only [Int.reduceAdd, Int.reduceSub, Int.reduceMul, Int.reduceNeg, Int.reduceMod, Int.reduceDiv, Int.reduceTMod, Int.reduceTDiv, Int.zero_add, Int.add_zero]; done) | (simp only [Int.reduceAdd, Int.reduceSub, Int.reduceMul, Int.reduceNeg, Int.reduceMod, Int.reduceDiv, Int.reduceTMod, Int.reduceTDiv, Int.zero_add, Int.add_zero]; rfl) | rfl)) (by first | exact sat_in64 _ | (dsimp only [inR]; first | decide | omega)) ?_; conv => whnf)
          | (refine quo_t (by omega) (by first | exact sat_in64 _ | (dsimp only [inR]; first | decide | omega)) ?_; conv => whnf))
        | (refine rem_id ?_; first
          | (refine rem_in (by omega) (by (first | (simp only [Int.reduceAdd, Int.reduceSub, Int.reduceMul, Int.reduceNeg, Int.reduceMod, Int.reduceDiv, Int.reduceTMod, Int.reduceTDiv, Int.zero_add, Int.add_zero]; done) | (simp only [Int.reduceAdd, Int.reduceSub, Int.reduceMul, Int.reduceNeg, Int.reduceMod, Int.reduceDiv, Int.reduceTMod, Int.reduceTDiv, Int.zero_add, Int.add_zero]; rfl) | rfl)) ?_; conv => whnf)
          | (refine rem_t (by omega) ?_; conv => whnf))
        | (refine app_id ?_; refine app_i (by (first | (simp only [Nat.zero_add, Nat.add_zero, Nat.mul_one, Nat.reduceAdd, Nat.reduceMul, Int.reduceToNat, Int.toNat_natCast, Int.toNat_zero, Int.toNat_one, Nat.zero_mul]; done) | (simp only [Nat.zero_add, Nat.add_zero, Nat.mul_one, Nat.reduceAdd, Nat.reduceMul, Int.reduceToNat, Int.toNat_natCast, Int.toNat_zero, Int.toNat_one, Nat.zero_mul]; rfl) | rfl)) (by (first | (simp only [List.nil_append, List.cons_append, List.append_nil]; done) | (simp only [List.nil_append, List.cons_append, List.append_nil]; rfl) | rfl)) (by omega) (by omega) ?_; intro _ _; conv => whnf)
        | (refine sl_id ?_; fail)
        | (refine eff_id ?_; fail)
        | (refine val_id ?_; fail)
        | (refine x_rnd ?_)
        | (refine x_rnd' ?_)
        | (refine xdrw_id ?_; first | (refine x_drw tab_ok (id := 10) [] [] [0, 1, 2, 3, 4, 5, 6, 7, 8, 9, 10, 11, 12, 13, 14, 15, 16] followsMixed (by kernel_rfl) (by rfl) (by rfl) ?_; conv => whnf)))
      refine x_rounds 4 ?_
      repeat' (first
        | (fail)
        | (refine run_c tab_ok ?_; conv => whnf)
        | (refine side_id ?_; refine side_i (by first | rfl | exact ⟨rfl, rfl, rfl, rfl⟩ | trivial | (simp [allOne, partsOne, Value.cells, Value.oneCell']; done) | fail) ?_; conv => whnf)
        | (refine ar_id ?_; refine ar_in (by (first | (simp only [Int.reduceAdd, Int.reduceSub, Int.reduceMul, Int.reduceNeg, Int.reduceMod, Int.reduceDiv, Int.reduceTMod, Int.reduceTDiv, Int.zero_add, Int.add_zero]; done) | (simp only [Int.reduceAdd, Int.reduceSub, Int.reduceMul, Int.reduceNeg, Int.reduceMod, Int.reduceDiv, Int.reduceTMod, Int.reduceTDiv, Int.zero_add, Int.add_zero]; rfl) | rfl)) (by first | exact sat_in64 _ | (dsimp only [inR]; first | decide | omega)) ?_; conv => whnf)
        | (refine new_i ?_; intro _; conv => whnf)
        | (refine br_id ?_; first
          | (refine br_t (by first | decide | omega | (with_reducible rfl) | fail | (simp only [cellEq, toB]; omega) | (simp only [cellEq, toB]; simp; done) | fail) ?_; conv => whnf)
          | (refine br_f (by first | decide | omega | (with_reducible exact Bool.false_ne_true) | (with_reducible refine not_not_intro ?_; fail) | (simp only [cellEq, toB]; omega) | (simp only [cellEq, toB]; simp; done) | fail) ?_; conv => whnf)
          | ((refine br_any (fun h => ?_) (fun h => ?_) <;> (try simp only [cellEq, toB, Bool.not_eq_true, Bool.not_eq_false] at h) <;> (try (exfalso; first | omega | contradiction | (simp at h; done) | fail); done) <;> conv => whnf)))
        | (refine ix_id ?_; first
          | (refine ix_lit (by first | decide | omega) (by (first | (simp only [Nat.zero_add, Nat.add_zero, Nat.mul_one, Nat.reduceAdd, Nat.reduceMul, Int.reduceToNat, Int.toNat_natCast, Int.toNat_zero, Int.toNat_one, Nat.zero_mul]; done) | (simp only [Nat.zero_add, Nat.add_zero, Nat.mul_one, Nat.reduceAdd, Nat.reduceMul, Int.reduceToNat, Int.toNat_natCast, Int.toNat_zero, Int.toNat_one, Nat.zero_mul]; rfl) | rfl)) (by rfl) ?_; conv => whnf)
          | (refine ix_sym (by omega) ?_; conv => whnf))
        | (refine lcall_id ?_; first | (refine lcall_ret (fun w' hl => rsat_S w' _) ?_; conv => whnf) | (refine lcall_ret (fun w' hl => down_S w' _ _ (by omega) (by omega)) ?_; conv => whnf) | (refine lcall_ret (fun w' hl => times_S _ _ _ w' (by first | assumption | exact sat_i32 _ | exact crs_i32 _ _ _ _ _ | exact axv_i32 _ _ | exact clampv_i32 _ _ (by assumption) | exact i32_of (by omega) (by omega)) (by first | assumption | exact sat_i32 _ | exact crs_i32 _ _ _ _ _ | exact axv_i32 _ _ | exact clampv_i32 _ _ (by assumption) | exact i32_of (by omega) (by omega))) ?_; conv => whnf) | (refine lcall_ret (fun w' hl => rclamp_S _ _ w' (by first | assumption | exact sat_i32 _ | exact crs_i32 _ _ _ _ _ | exact axv_i32 _ _ | exact clampv_i32 _ _ (by assumption) | exact i32_of (by omega) (by omega)) (i32_i64 (sat_i32 _))) ?_; conv => whnf))
        | (refine lload_id ?_; first
          | (fail)
          | (refine load_old _ (by with_reducible assumption) (by simp; done) ?_; conv => whnf))
        | (refine lixs_id ?_; fail)
        | (refine ex_id ?_; refine ex_z (by (first | (simp only [Int.reduceAdd, Int.reduceSub, Int.reduceMul, Int.reduceNeg, Int.reduceMod, Int.reduceDiv, Int.reduceTMod, Int.reduceTDiv, Int.zero_add, Int.add_zero]; done) | (simp only [Int.reduceAdd, Int.reduceSub, Int.reduceMul, Int.reduceNeg, Int.reduceMod, Int.reduceDiv, Int.reduceTMod, Int.reduceTDiv, Int.zero_add, Int.add_zero]; rfl) | rfl)) ?_; conv => whnf)
        | (refine sh_id ?_; refine sh_z (by omega) (by (first | (simp only [Int.reduceAdd, Int.reduceSub, Int.reduceMul, Int.reduceNeg, Int.reduceMod, Int.reduceDiv, Int.reduceTMod, Int.reduceTDiv, Int.zero_add, Int.add_zero]; done) | (simp only [Int.reduceAdd, Int.reduceSub, Int.reduceMul, Int.reduceNeg, Int.reduceMod, Int.reduceDiv, Int.reduceTMod, Int.reduceTDiv, Int.zero_add, Int.add_zero]; rfl) | rfl)) ?_; conv => whnf)
        | (refine quo_id ?_; first
          | (refine quo_in (by omega) (by (first | (simp only [Int.reduceAdd, Int.reduceSub, Int.reduceMul, Int.reduceNeg, Int.reduceMod, Int.reduceDiv, Int.reduceTMod, Int.reduceTDiv, Int.zero_add, Int.add_zero]; done) | (simp only [Int.reduceAdd, Int.reduceSub, Int.reduceMul, Int.reduceNeg, Int.reduceMod, Int.reduceDiv, Int.reduceTMod, Int.reduceTDiv, Int.zero_add, Int.add_zero]; rfl) | rfl)) (by first | exact sat_in64 _ | (dsimp only [inR]; first | decide | omega)) ?_; conv => whnf)
          | (refine quo_t (by omega) (by first | exact sat_in64 _ | (dsimp only [inR]; first | decide | omega)) ?_; conv => whnf))
        | (refine rem_id ?_; first
          | (refine rem_in (by omega) (by (first | (simp only [Int.reduceAdd, Int.reduceSub, Int.reduceMul, Int.reduceNeg, Int.reduceMod, Int.reduceDiv, Int.reduceTMod, Int.reduceTDiv, Int.zero_add, Int.add_zero]; done) | (simp only [Int.reduceAdd, Int.reduceSub, Int.reduceMul, Int.reduceNeg, Int.reduceMod, Int.reduceDiv, Int.reduceTMod, Int.reduceTDiv, Int.zero_add, Int.add_zero]; rfl) | rfl)) ?_; conv => whnf)
          | (refine rem_t (by omega) ?_; conv => whnf))
        | (refine app_id ?_; refine app_i (by (first | (simp only [Nat.zero_add, Nat.add_zero, Nat.mul_one, Nat.reduceAdd, Nat.reduceMul, Int.reduceToNat, Int.toNat_natCast, Int.toNat_zero, Int.toNat_one, Nat.zero_mul]; done) | (simp only [Nat.zero_add, Nat.add_zero, Nat.mul_one, Nat.reduceAdd, Nat.reduceMul, Int.reduceToNat, Int.toNat_natCast, Int.toNat_zero, Int.toNat_one, Nat.zero_mul]; rfl) | rfl)) (by (first | (simp only [List.nil_append, List.cons_append, List.append_nil]; done) | (simp only [List.nil_append, List.cons_append, List.append_nil]; rfl) | rfl)) (by omega) (by omega) ?_; intro _ _; conv => whnf)
        | (refine sl_id ?_; fail)
        | (refine eff_id ?_; fail)
        | (refine val_id ?_; fail)
        | (refine x_rnd ?_)
        | (refine x_rnd' ?_)
        | (refine xdrw_id ?_; first | (refine x_drw tab_ok (id := 10) [] [] [0, 1, 2, 3, 4, 5, 6, 7, 8, 9, 10, 11, 12, 13, 14, 15, 16] followsMixed (by kernel_rfl) (by rfl) (by rfl) ?_; conv => whnf)))
      (refine fin_ret ?_)
      rfl)


theorem sun_self (x0 x1 x2 ax kp kd q m : Int) (e0 : axv ax 0 = x0) (e1 : axv ax 1 = x1) (e2 : axv ax 2 = x2) (w : World) (hkp : I32 kp) (hkd : I32 kd) (hm : I32 m) :
    RetS Try.prog 24 [v3 x0 x1 x2, v3 0 0 0, i64 ax, i32 kp, i32 kd, i64 q, i32 m] w (v3 0 0 0) := by
  have z : I32 0 := by unfold I32; omega
  subst e0 e1 e2
  have h := sun_S (axv ax 0) (axv ax 1) (axv ax 2) 0 0 0 ax kp kd q m w (axv_i32 _ _) (axv_i32 _ _) (axv_i32 _ _) z z z hkp hkd hm
  rw [crs_self, crs_self, crs_self, trq_z] at h
  exact h
theorem sun_three (s0 s1 s2 kp kd q m : Int) (w : World) (hs0 : I32 s0) (hs1 : I32 s1) (hs2 : I32 s2) (hkp : I32 kp) (hkd : I32 kd) (hm : I32 m) :
    RetS Try.prog 24 [v3 s0 s1 s2, v3 0 0 0, i64 3, i32 kp, i32 kd, i64 q, i32 m] w (v3 0 0 0) := by
  have z : I32 0 := by unfold I32; omega
  have h := sun_S s0 s1 s2 0 0 0 3 kp kd q m w hs0 hs1 hs2 z z z hkp hkd hm
  rw [show axv 3 0 = 0 by decide, show axv 3 1 = 0 by decide, show axv 3 2 = 0 by decide, crs_z, crs_z, crs_z, trq_z] at h
  exact h
theorem axis_at (ax x0 x1 x2 : Int) (e0 : axv ax 0 = x0) (e1 : axv ax 1 = x1) (e2 : axv ax 2 = x2) (w : World) : RetS Try.prog 25 [i64 ax] w (v3 x0 x1 x2) := by
  subst e0 e1 e2
  exact axis_S _ _
theorem nt {b : Bool} (h : b = false) : ¬ b = true := by rw [h]; exact Bool.false_ne_true
set_option maxHeartbeats 1000000 in
theorem suns_at (x0 x1 x2 s0 s1 s2 r0 r1 r2 ax kp kd q m : Int) (w : World) (e0 : axv ax 0 = x0) (e1 : axv ax 1 = x1) (e2 : axv ax 2 = x2) (f0 : (x0 = 1000 ∧ ax = 0) ∨ (x0 = 0 ∧ ax ≠ 0)) (f1 : (x1 = 1000 ∧ ax = 1) ∨ (x1 = 0 ∧ ax ≠ 1)) (f2 : (x2 = 1000 ∧ ax = 2) ∨ (x2 = 0 ∧ ax ≠ 2))
    (hs0 : I32 s0) (hs1 : I32 s1) (hs2 : I32 s2) (hr0 : I32 r0) (hr1 : I32 r1) (hr2 : I32 r2) (hkp : I32 kp) (hkd : I32 kd) (hm : I32 m) (hax : inR .i64 ax) :
    RetS Try.prog 6 [v3 s0 s1 s2, v3 r0 r1 r2, i64 ax, i32 kp, i32 kd, i64 q, i32 m] w (.lit true) := by
  have g0 : (decide (x0 = 1000) != decide (0 = ax)) = false := by rw [bne_eq_false_iff_eq, decide_eq_decide]; omega
  have g1 : (decide (x1 = 1000) != decide (1 = ax)) = false := by rw [bne_eq_false_iff_eq, decide_eq_decide]; omega
  have g2 : (decide (x2 = 1000) != decide (2 = ax)) = false := by rw [bne_eq_false_iff_eq, decide_eq_decide]; omega
  refine ret_x tab_ok Try.func6 rfl Try.ntmps6 (by rfl) ?_; simp only [argX, Nat.reduceAdd, Nat.zero_add]; conv => whnf
  repeat' (first
    | (fail)
    | (refine run_c tab_ok ?_; conv => whnf)
    | (refine side_id ?_; refine side_i (by first | rfl | exact ⟨rfl, rfl, rfl, rfl⟩ | trivial | (simp [allOne, partsOne, Value.cells, Value.oneCell']; done) | fail) ?_; conv => whnf)
    | (refine ar_id ?_; refine ar_in (by (first | (simp only [Int.reduceAdd, Int.reduceSub, Int.reduceMul, Int.reduceNeg, Int.reduceMod, Int.reduceDiv, Int.reduceTMod, Int.reduceTDiv, Int.zero_add, Int.add_zero]; done) | (simp only [Int.reduceAdd, Int.reduceSub, Int.reduceMul, Int.reduceNeg, Int.reduceMod, Int.reduceDiv, Int.reduceTMod, Int.reduceTDiv, Int.zero_add, Int.add_zero]; rfl) | rfl)) (by first | exact sat_in64 _ | (dsimp only [inR]; first | decide | omega)) ?_; conv => whnf)
    | (refine new_i ?_; intro _; conv => whnf)
    | (refine br_id ?_; first
      | (refine br_t (by first | decide | omega | (with_reducible rfl) | (with_reducible exact v3_eq rfl rfl rfl) | (simp only [cellEq, toB]; simp; done) | fail) ?_; conv => whnf)
      | (refine br_f (by first | decide | omega | (with_reducible exact nt g0) | (with_reducible exact nt g1) | (with_reducible exact nt g2) | (simp only [cellEq, toB]; simp; done) | fail) ?_; conv => whnf)
      | ((refine br_any (fun h => ?_) (fun h => ?_) <;> (try simp only [cellEq, toB, Bool.not_eq_true, Bool.not_eq_false] at h) <;> (try (exfalso; first | omega | contradiction | (simp at h; done) | fail); done) <;> conv => whnf)))
    | (refine ix_id ?_; first
      | (refine ix_lit (by first | decide | omega) (by (first | (simp only [Nat.zero_add, Nat.add_zero, Nat.mul_one, Nat.reduceAdd, Nat.reduceMul, Int.reduceToNat, Int.toNat_natCast, Int.toNat_zero, Int.toNat_one, Nat.zero_mul]; done) | (simp only [Nat.zero_add, Nat.add_zero, Nat.mul_one, Nat.reduceAdd, Nat.reduceMul, Int.reduceToNat, Int.toNat_natCast, Int.toNat_zero, Int.toNat_one, Nat.zero_mul]; rfl) | rfl)) (by rfl) ?_; conv => whnf)
      | (refine ix_sym (by omega) ?_; conv => whnf))
    | (refine lcall_id ?_; first | (refine lcall_ret (fun w' hl => awake23_S w') ?_; conv => whnf) | (refine lcall_ret (fun w' hl => axis_at _ _ _ _ e0 e1 e2 w') ?_; conv => whnf) | (refine lcall_ret (fun w' hl => sun_three _ _ _ _ _ _ _ w' (by first | assumption | exact sat_i32 _ | exact crs_i32 _ _ _ _ _ | exact axv_i32 _ _ | exact clampv_i32 _ _ (by assumption) | exact i32_of (by omega) (by omega)) (by first | assumption | exact sat_i32 _ | exact crs_i32 _ _ _ _ _ | exact axv_i32 _ _ | exact clampv_i32 _ _ (by assumption) | exact i32_of (by omega) (by omega)) (by first | assumption | exact sat_i32 _ | exact crs_i32 _ _ _ _ _ | exact axv_i32 _ _ | exact clampv_i32 _ _ (by assumption) | exact i32_of (by omega) (by omega)) (by first | assumption | exact sat_i32 _ | exact crs_i32 _ _ _ _ _ | exact axv_i32 _ _ | exact clampv_i32 _ _ (by assumption) | exact i32_of (by omega) (by omega)) (by first | assumption | exact sat_i32 _ | exact crs_i32 _ _ _ _ _ | exact axv_i32 _ _ | exact clampv_i32 _ _ (by assumption) | exact i32_of (by omega) (by omega)) (by first | assumption | exact sat_i32 _ | exact crs_i32 _ _ _ _ _ | exact axv_i32 _ _ | exact clampv_i32 _ _ (by assumption) | exact i32_of (by omega) (by omega))) ?_; conv => whnf) | (refine lcall_ret (fun w' hl => sun_self _ _ _ _ _ _ _ _ e0 e1 e2 w' (by first | assumption | exact sat_i32 _ | exact crs_i32 _ _ _ _ _ | exact axv_i32 _ _ | exact clampv_i32 _ _ (by assumption) | exact i32_of (by omega) (by omega)) (by first | assumption | exact sat_i32 _ | exact crs_i32 _ _ _ _ _ | exact axv_i32 _ _ | exact clampv_i32 _ _ (by assumption) | exact i32_of (by omega) (by omega)) (by first | assumption | exact sat_i32 _ | exact crs_i32 _ _ _ _ _ | exact axv_i32 _ _ | exact clampv_i32 _ _ (by assumption) | exact i32_of (by omega) (by omega))) ?_; conv => whnf) | (refine lcall_ret (fun w' hl => sun_S _ _ _ _ _ _ _ _ _ _ _ w' (by first | assumption | exact sat_i32 _ | exact crs_i32 _ _ _ _ _ | exact axv_i32 _ _ | exact clampv_i32 _ _ (by assumption) | exact i32_of (by omega) (by omega)) (by first | assumption | exact sat_i32 _ | exact crs_i32 _ _ _ _ _ | exact axv_i32 _ _ | exact clampv_i32 _ _ (by assumption) | exact i32_of (by omega) (by omega)) (by first | assumption | exact sat_i32 _ | exact crs_i32 _ _ _ _ _ | exact axv_i32 _ _ | exact clampv_i32 _ _ (by assumption) | exact i32_of (by omega) (by omega)) (by first | assumption | exact sat_i32 _ | exact crs_i32 _ _ _ _ _ | exact axv_i32 _ _ | exact clampv_i32 _ _ (by assumption) | exact i32_of (by omega) (by omega)) (by first | assumption | exact sat_i32 _ | exact crs_i32 _ _ _ _ _ | exact axv_i32 _ _ | exact clampv_i32 _ _ (by assumption) | exact i32_of (by omega) (by omega)) (by first | assumption | exact sat_i32 _ | exact crs_i32 _ _ _ _ _ | exact axv_i32 _ _ | exact clampv_i32 _ _ (by assumption) | exact i32_of (by omega) (by omega)) (by first | assumption | exact sat_i32 _ | exact crs_i32 _ _ _ _ _ | exact axv_i32 _ _ | exact clampv_i32 _ _ (by assumption) | exact i32_of (by omega) (by omega)) (by first | assumption | exact sat_i32 _ | exact crs_i32 _ _ _ _ _ | exact axv_i32 _ _ | exact clampv_i32 _ _ (by assumption) | exact i32_of (by omega) (by omega)) (by first | assumption | exact sat_i32 _ | exact crs_i32 _ _ _ _ _ | exact axv_i32 _ _ | exact clampv_i32 _ _ (by assumption) | exact i32_of (by omega) (by omega))) ?_; conv => whnf) | (refine lcall_ret (fun w' hl => rsun_S _ _ _ _ _ _ _ _ _ _ _ w' (by first | assumption | exact sat_i32 _ | exact crs_i32 _ _ _ _ _ | exact axv_i32 _ _ | exact clampv_i32 _ _ (by assumption) | exact i32_of (by omega) (by omega)) (by first | assumption | exact sat_i32 _ | exact crs_i32 _ _ _ _ _ | exact axv_i32 _ _ | exact clampv_i32 _ _ (by assumption) | exact i32_of (by omega) (by omega)) (by first | assumption | exact sat_i32 _ | exact crs_i32 _ _ _ _ _ | exact axv_i32 _ _ | exact clampv_i32 _ _ (by assumption) | exact i32_of (by omega) (by omega)) (by first | assumption | exact sat_i32 _ | exact crs_i32 _ _ _ _ _ | exact axv_i32 _ _ | exact clampv_i32 _ _ (by assumption) | exact i32_of (by omega) (by omega)) (by first | assumption | exact sat_i32 _ | exact crs_i32 _ _ _ _ _ | exact axv_i32 _ _ | exact clampv_i32 _ _ (by assumption) | exact i32_of (by omega) (by omega)) (by first | assumption | exact sat_i32 _ | exact crs_i32 _ _ _ _ _ | exact axv_i32 _ _ | exact clampv_i32 _ _ (by assumption) | exact i32_of (by omega) (by omega)) (by first | assumption | exact sat_i32 _ | exact crs_i32 _ _ _ _ _ | exact axv_i32 _ _ | exact clampv_i32 _ _ (by assumption) | exact i32_of (by omega) (by omega)) (by first | assumption | exact sat_i32 _ | exact crs_i32 _ _ _ _ _ | exact axv_i32 _ _ | exact clampv_i32 _ _ (by assumption) | exact i32_of (by omega) (by omega)) (by first | assumption | exact sat_i32 _ | exact crs_i32 _ _ _ _ _ | exact axv_i32 _ _ | exact clampv_i32 _ _ (by assumption) | exact i32_of (by omega) (by omega)) hax) ?_; conv => whnf))
    | (refine lload_id ?_; first
      | (fail)
      | (refine load_old _ (by with_reducible assumption) (by simp; done) ?_; conv => whnf))
    | (refine lixs_id ?_; fail)
    | (refine ex_id ?_; refine ex_z (by (first | (simp only [Int.reduceAdd, Int.reduceSub, Int.reduceMul, Int.reduceNeg, Int.reduceMod, Int.reduceDiv, Int.reduceTMod, Int.reduceTDiv, Int.zero_add, Int.add_zero]; done) | (simp only [Int.reduceAdd, Int.reduceSub, Int.reduceMul, Int.reduceNeg, Int.reduceMod, Int.reduceDiv, Int.reduceTMod, Int.reduceTDiv, Int.zero_add, Int.add_zero]; rfl) | rfl)) ?_; conv => whnf)
    | (refine sh_id ?_; refine sh_z (by omega) (by (first | (simp only [Int.reduceAdd, Int.reduceSub, Int.reduceMul, Int.reduceNeg, Int.reduceMod, Int.reduceDiv, Int.reduceTMod, Int.reduceTDiv, Int.zero_add, Int.add_zero]; done) | (simp only [Int.reduceAdd, Int.reduceSub, Int.reduceMul, Int.reduceNeg, Int.reduceMod, Int.reduceDiv, Int.reduceTMod, Int.reduceTDiv, Int.zero_add, Int.add_zero]; rfl) | rfl)) ?_; conv => whnf)
    | (refine quo_id ?_; first
      | (refine quo_in (by omega) (by (first | (simp only [Int.reduceAdd, Int.reduceSub, Int.reduceMul, Int.reduceNeg, Int.reduceMod, Int.reduceDiv, Int.reduceTMod, Int.reduceTDiv, Int.zero_add, Int.add_zero]; done) | (simp only [Int.reduceAdd, Int.reduceSub, Int.reduceMul, Int.reduceNeg, Int.reduceMod, Int.reduceDiv, Int.reduceTMod, Int.reduceTDiv, Int.zero_add, Int.add_zero]; rfl) | rfl)) (by first | exact sat_in64 _ | (dsimp only [inR]; first | decide | omega)) ?_; conv => whnf)
      | (refine quo_t (by omega) (by first | exact sat_in64 _ | (dsimp only [inR]; first | decide | omega)) ?_; conv => whnf))
    | (refine rem_id ?_; first
      | (refine rem_in (by omega) (by (first | (simp only [Int.reduceAdd, Int.reduceSub, Int.reduceMul, Int.reduceNeg, Int.reduceMod, Int.reduceDiv, Int.reduceTMod, Int.reduceTDiv, Int.zero_add, Int.add_zero]; done) | (simp only [Int.reduceAdd, Int.reduceSub, Int.reduceMul, Int.reduceNeg, Int.reduceMod, Int.reduceDiv, Int.reduceTMod, Int.reduceTDiv, Int.zero_add, Int.add_zero]; rfl) | rfl)) ?_; conv => whnf)
      | (refine rem_t (by omega) ?_; conv => whnf))
    | (refine app_id ?_; refine app_i (by (first | (simp only [Nat.zero_add, Nat.add_zero, Nat.mul_one, Nat.reduceAdd, Nat.reduceMul, Int.reduceToNat, Int.toNat_natCast, Int.toNat_zero, Int.toNat_one, Nat.zero_mul]; done) | (simp only [Nat.zero_add, Nat.add_zero, Nat.mul_one, Nat.reduceAdd, Nat.reduceMul, Int.reduceToNat, Int.toNat_natCast, Int.toNat_zero, Int.toNat_one, Nat.zero_mul]; rfl) | rfl)) (by (first | (simp only [List.nil_append, List.cons_append, List.append_nil]; done) | (simp only [List.nil_append, List.cons_append, List.append_nil]; rfl) | rfl)) (by omega) (by omega) ?_; intro _ _; conv => whnf)
    | (refine sl_id ?_; fail)
    | (refine eff_id ?_; fail)
    | (refine val_id ?_; fail)
    | (refine x_rnd ?_)
    | (refine x_rnd' ?_)
    | (refine xdrw_id ?_; first | (refine x_drw tab_ok (id := 11) [] [] [0, 1, 2, 3, 4, 5, 6, 7, 8, 9, 10, 11, 12, 13, 14, 15, 16, 17, 18, 19, 20, 21, 22, 23, 24, 25, 26, 27, 28, 29, 30, 31, 32, 33] followsMixed (by kernel_rfl) (by rfl) (by rfl) ?_; conv => whnf)))
  refine x_rounds 4 ?_
  repeat' (first
    | (fail)
    | (refine run_c tab_ok ?_; conv => whnf)
    | (refine side_id ?_; refine side_i (by first | rfl | exact ⟨rfl, rfl, rfl, rfl⟩ | trivial | (simp [allOne, partsOne, Value.cells, Value.oneCell']; done) | fail) ?_; conv => whnf)
    | (refine ar_id ?_; refine ar_in (by (first | (simp only [Int.reduceAdd, Int.reduceSub, Int.reduceMul, Int.reduceNeg, Int.reduceMod, Int.reduceDiv, Int.reduceTMod, Int.reduceTDiv, Int.zero_add, Int.add_zero]; done) | (simp only [Int.reduceAdd, Int.reduceSub, Int.reduceMul, Int.reduceNeg, Int.reduceMod, Int.reduceDiv, Int.reduceTMod, Int.reduceTDiv, Int.zero_add, Int.add_zero]; rfl) | rfl)) (by first | exact sat_in64 _ | (dsimp only [inR]; first | decide | omega)) ?_; conv => whnf)
    | (refine new_i ?_; intro _; conv => whnf)
    | (refine br_id ?_; first
      | (refine br_t (by first | decide | omega | (with_reducible rfl) | (with_reducible exact v3_eq rfl rfl rfl) | (simp only [cellEq, toB]; simp; done) | fail) ?_; conv => whnf)
      | (refine br_f (by first | decide | omega | (with_reducible exact nt g0) | (with_reducible exact nt g1) | (with_reducible exact nt g2) | (simp only [cellEq, toB]; simp; done) | fail) ?_; conv => whnf)
      | ((refine br_any (fun h => ?_) (fun h => ?_) <;> (try simp only [cellEq, toB, Bool.not_eq_true, Bool.not_eq_false] at h) <;> (try (exfalso; first | omega | contradiction | (simp at h; done) | fail); done) <;> conv => whnf)))
    | (refine ix_id ?_; first
      | (refine ix_lit (by first | decide | omega) (by (first | (simp only [Nat.zero_add, Nat.add_zero, Nat.mul_one, Nat.reduceAdd, Nat.reduceMul, Int.reduceToNat, Int.toNat_natCast, Int.toNat_zero, Int.toNat_one, Nat.zero_mul]; done) | (simp only [Nat.zero_add, Nat.add_zero, Nat.mul_one, Nat.reduceAdd, Nat.reduceMul, Int.reduceToNat, Int.toNat_natCast, Int.toNat_zero, Int.toNat_one, Nat.zero_mul]; rfl) | rfl)) (by rfl) ?_; conv => whnf)
      | (refine ix_sym (by omega) ?_; conv => whnf))
    | (refine lcall_id ?_; first | (refine lcall_ret (fun w' hl => awake23_S w') ?_; conv => whnf) | (refine lcall_ret (fun w' hl => axis_at _ _ _ _ e0 e1 e2 w') ?_; conv => whnf) | (refine lcall_ret (fun w' hl => sun_three _ _ _ _ _ _ _ w' (by first | assumption | exact sat_i32 _ | exact crs_i32 _ _ _ _ _ | exact axv_i32 _ _ | exact clampv_i32 _ _ (by assumption) | exact i32_of (by omega) (by omega)) (by first | assumption | exact sat_i32 _ | exact crs_i32 _ _ _ _ _ | exact axv_i32 _ _ | exact clampv_i32 _ _ (by assumption) | exact i32_of (by omega) (by omega)) (by first | assumption | exact sat_i32 _ | exact crs_i32 _ _ _ _ _ | exact axv_i32 _ _ | exact clampv_i32 _ _ (by assumption) | exact i32_of (by omega) (by omega)) (by first | assumption | exact sat_i32 _ | exact crs_i32 _ _ _ _ _ | exact axv_i32 _ _ | exact clampv_i32 _ _ (by assumption) | exact i32_of (by omega) (by omega)) (by first | assumption | exact sat_i32 _ | exact crs_i32 _ _ _ _ _ | exact axv_i32 _ _ | exact clampv_i32 _ _ (by assumption) | exact i32_of (by omega) (by omega)) (by first | assumption | exact sat_i32 _ | exact crs_i32 _ _ _ _ _ | exact axv_i32 _ _ | exact clampv_i32 _ _ (by assumption) | exact i32_of (by omega) (by omega))) ?_; conv => whnf) | (refine lcall_ret (fun w' hl => sun_self _ _ _ _ _ _ _ _ e0 e1 e2 w' (by first | assumption | exact sat_i32 _ | exact crs_i32 _ _ _ _ _ | exact axv_i32 _ _ | exact clampv_i32 _ _ (by assumption) | exact i32_of (by omega) (by omega)) (by first | assumption | exact sat_i32 _ | exact crs_i32 _ _ _ _ _ | exact axv_i32 _ _ | exact clampv_i32 _ _ (by assumption) | exact i32_of (by omega) (by omega)) (by first | assumption | exact sat_i32 _ | exact crs_i32 _ _ _ _ _ | exact axv_i32 _ _ | exact clampv_i32 _ _ (by assumption) | exact i32_of (by omega) (by omega))) ?_; conv => whnf) | (refine lcall_ret (fun w' hl => sun_S _ _ _ _ _ _ _ _ _ _ _ w' (by first | assumption | exact sat_i32 _ | exact crs_i32 _ _ _ _ _ | exact axv_i32 _ _ | exact clampv_i32 _ _ (by assumption) | exact i32_of (by omega) (by omega)) (by first | assumption | exact sat_i32 _ | exact crs_i32 _ _ _ _ _ | exact axv_i32 _ _ | exact clampv_i32 _ _ (by assumption) | exact i32_of (by omega) (by omega)) (by first | assumption | exact sat_i32 _ | exact crs_i32 _ _ _ _ _ | exact axv_i32 _ _ | exact clampv_i32 _ _ (by assumption) | exact i32_of (by omega) (by omega)) (by first | assumption | exact sat_i32 _ | exact crs_i32 _ _ _ _ _ | exact axv_i32 _ _ | exact clampv_i32 _ _ (by assumption) | exact i32_of (by omega) (by omega)) (by first | assumption | exact sat_i32 _ | exact crs_i32 _ _ _ _ _ | exact axv_i32 _ _ | exact clampv_i32 _ _ (by assumption) | exact i32_of (by omega) (by omega)) (by first | assumption | exact sat_i32 _ | exact crs_i32 _ _ _ _ _ | exact axv_i32 _ _ | exact clampv_i32 _ _ (by assumption) | exact i32_of (by omega) (by omega)) (by first | assumption | exact sat_i32 _ | exact crs_i32 _ _ _ _ _ | exact axv_i32 _ _ | exact clampv_i32 _ _ (by assumption) | exact i32_of (by omega) (by omega)) (by first | assumption | exact sat_i32 _ | exact crs_i32 _ _ _ _ _ | exact axv_i32 _ _ | exact clampv_i32 _ _ (by assumption) | exact i32_of (by omega) (by omega)) (by first | assumption | exact sat_i32 _ | exact crs_i32 _ _ _ _ _ | exact axv_i32 _ _ | exact clampv_i32 _ _ (by assumption) | exact i32_of (by omega) (by omega))) ?_; conv => whnf) | (refine lcall_ret (fun w' hl => rsun_S _ _ _ _ _ _ _ _ _ _ _ w' (by first | assumption | exact sat_i32 _ | exact crs_i32 _ _ _ _ _ | exact axv_i32 _ _ | exact clampv_i32 _ _ (by assumption) | exact i32_of (by omega) (by omega)) (by first | assumption | exact sat_i32 _ | exact crs_i32 _ _ _ _ _ | exact axv_i32 _ _ | exact clampv_i32 _ _ (by assumption) | exact i32_of (by omega) (by omega)) (by first | assumption | exact sat_i32 _ | exact crs_i32 _ _ _ _ _ | exact axv_i32 _ _ | exact clampv_i32 _ _ (by assumption) | exact i32_of (by omega) (by omega)) (by first | assumption | exact sat_i32 _ | exact crs_i32 _ _ _ _ _ | exact axv_i32 _ _ | exact clampv_i32 _ _ (by assumption) | exact i32_of (by omega) (by omega)) (by first | assumption | exact sat_i32 _ | exact crs_i32 _ _ _ _ _ | exact axv_i32 _ _ | exact clampv_i32 _ _ (by assumption) | exact i32_of (by omega) (by omega)) (by first | assumption | exact sat_i32 _ | exact crs_i32 _ _ _ _ _ | exact axv_i32 _ _ | exact clampv_i32 _ _ (by assumption) | exact i32_of (by omega) (by omega)) (by first | assumption | exact sat_i32 _ | exact crs_i32 _ _ _ _ _ | exact axv_i32 _ _ | exact clampv_i32 _ _ (by assumption) | exact i32_of (by omega) (by omega)) (by first | assumption | exact sat_i32 _ | exact crs_i32 _ _ _ _ _ | exact axv_i32 _ _ | exact clampv_i32 _ _ (by assumption) | exact i32_of (by omega) (by omega)) (by first | assumption | exact sat_i32 _ | exact crs_i32 _ _ _ _ _ | exact axv_i32 _ _ | exact clampv_i32 _ _ (by assumption) | exact i32_of (by omega) (by omega)) hax) ?_; conv => whnf))
    | (refine lload_id ?_; first
      | (fail)
      | (refine load_old _ (by with_reducible assumption) (by simp; done) ?_; conv => whnf))
    | (refine lixs_id ?_; fail)
    | (refine ex_id ?_; refine ex_z (by (first | (simp only [Int.reduceAdd, Int.reduceSub, Int.reduceMul, Int.reduceNeg, Int.reduceMod, Int.reduceDiv, Int.reduceTMod, Int.reduceTDiv, Int.zero_add, Int.add_zero]; done) | (simp only [Int.reduceAdd, Int.reduceSub, Int.reduceMul, Int.reduceNeg, Int.reduceMod, Int.reduceDiv, Int.reduceTMod, Int.reduceTDiv, Int.zero_add, Int.add_zero]; rfl) | rfl)) ?_; conv => whnf)
    | (refine sh_id ?_; refine sh_z (by omega) (by (first | (simp only [Int.reduceAdd, Int.reduceSub, Int.reduceMul, Int.reduceNeg, Int.reduceMod, Int.reduceDiv, Int.reduceTMod, Int.reduceTDiv, Int.zero_add, Int.add_zero]; done) | (simp only [Int.reduceAdd, Int.reduceSub, Int.reduceMul, Int.reduceNeg, Int.reduceMod, Int.reduceDiv, Int.reduceTMod, Int.reduceTDiv, Int.zero_add, Int.add_zero]; rfl) | rfl)) ?_; conv => whnf)
    | (refine quo_id ?_; first
      | (refine quo_in (by omega) (by (first | (simp only [Int.reduceAdd, Int.reduceSub, Int.reduceMul, Int.reduceNeg, Int.reduceMod, Int.reduceDiv, Int.reduceTMod, Int.reduceTDiv, Int.zero_add, Int.add_zero]; done) | (simp only [Int.reduceAdd, Int.reduceSub, Int.reduceMul, Int.reduceNeg, Int.reduceMod, Int.reduceDiv, Int.reduceTMod, Int.reduceTDiv, Int.zero_add, Int.add_zero]; rfl) | rfl)) (by first | exact sat_in64 _ | (dsimp only [inR]; first | decide | omega)) ?_; conv => whnf)
      | (refine quo_t (by omega) (by first | exact sat_in64 _ | (dsimp only [inR]; first | decide | omega)) ?_; conv => whnf))
    | (refine rem_id ?_; first
      | (refine rem_in (by omega) (by (first | (simp only [Int.reduceAdd, Int.reduceSub, Int.reduceMul, Int.reduceNeg, Int.reduceMod, Int.reduceDiv, Int.reduceTMod, Int.reduceTDiv, Int.zero_add, Int.add_zero]; done) | (simp only [Int.reduceAdd, Int.reduceSub, Int.reduceMul, Int.reduceNeg, Int.reduceMod, Int.reduceDiv, Int.reduceTMod, Int.reduceTDiv, Int.zero_add, Int.add_zero]; rfl) | rfl)) ?_; conv => whnf)
      | (refine rem_t (by omega) ?_; conv => whnf))
    | (refine app_id ?_; refine app_i (by (first | (simp only [Nat.zero_add, Nat.add_zero, Nat.mul_one, Nat.reduceAdd, Nat.reduceMul, Int.reduceToNat, Int.toNat_natCast, Int.toNat_zero, Int.toNat_one, Nat.zero_mul]; done) | (simp only [Nat.zero_add, Nat.add_zero, Nat.mul_one, Nat.reduceAdd, Nat.reduceMul, Int.reduceToNat, Int.toNat_natCast, Int.toNat_zero, Int.toNat_one, Nat.zero_mul]; rfl) | rfl)) (by (first | (simp only [List.nil_append, List.cons_append, List.append_nil]; done) | (simp only [List.nil_append, List.cons_append, List.append_nil]; rfl) | rfl)) (by omega) (by omega) ?_; intro _ _; conv => whnf)
    | (refine sl_id ?_; fail)
    | (refine eff_id ?_; fail)
    | (refine val_id ?_; fail)
    | (refine x_rnd ?_)
    | (refine x_rnd' ?_)
    | (refine xdrw_id ?_; first | (refine x_drw tab_ok (id := 11) [] [] [0, 1, 2, 3, 4, 5, 6, 7, 8, 9, 10, 11, 12, 13, 14, 15, 16, 17, 18, 19, 20, 21, 22, 23, 24, 25, 26, 27, 28, 29, 30, 31, 32, 33] followsMixed (by kernel_rfl) (by rfl) (by rfl) ?_; conv => whnf)))
  all_goals (
    (refine fin_ret ?_)
    first | rfl | exact congrArg Value.bool (@decide_eq_true _ (_) (v3_eq rfl rfl rfl)))
theorem axv_alt (ax i : Int) : (axv ax i = 1000 ∧ ax = i) ∨ (axv ax i = 0 ∧ ax ≠ i) := by
  unfold axv
  by_cases h : ax = i
  · left; exact ⟨if_pos h, h⟩
  · right; exact ⟨if_neg h, h⟩
theorem steerSuns_walk (s r : List Value) (ax kp kd q m : Int) (w : World) (h : skB [.i .i32, .i .i32, .i .i32] s = true) (hw : wfC s) (h' : skB [.i .i32, .i .i32, .i .i32] r = true) (hw' : wfC r) (hax : inR .i64 ax) (hkp : inR .i32 kp) (hkd : inR .i32 kd) (hq : inR .i64 q) (hm : inR .i32 m) :
    Calls Try.prog 6 #[.agg s.toArray, .agg r.toArray, .int .i64 ax, .int .i32 kp, .int .i32 kd, .int .i64 q, .int .i32 m] w fun e w' => e = .returned (.bool true) ∧ Below w.heap.size w w' := by
  obtain ⟨a, b, c, rfl, ha, hb, hc⟩ := v3_of h hw
  obtain ⟨a', b', c', rfl, ha', hb', hc'⟩ := v3_of h' hw'
  exact (suns_at _ _ _ _ _ _ _ _ _ ax kp kd q m w rfl rfl rfl (axv_alt _ _) (axv_alt _ _) (axv_alt _ _) ha hb hc ha' hb' hc' hkp hkd hm hax).below
end Go.Proofs.Ytfnailajblfckaa
