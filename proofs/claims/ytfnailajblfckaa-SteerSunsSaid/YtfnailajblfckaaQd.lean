/- The law of layer 23 that tells of damping, by reckoning. -/
import Derived.Test.YtfnailajblfckaaQs
namespace Go.Proofs.Ytfnailajblfckaa
set_option linter.unusedSimpArgs false
set_option linter.unusedVariables false
set_option linter.unnecessarySimpa false
set_option maxRecDepth 100000
open Go.RowKit

theorem i32_i64 {x : Int} (h : I32 x) : -9223372036854775808 ≤ x ∧ x ≤ 9223372036854775807 := by unfold I32 at h; omega
theorem v3_eq {a b c a' b' c' : Int} (h0 : a = a') (h1 : b = b') (h2 : c = c') : cellEq [SV.int .i32 a, .int .i32 b, .int .i32 c] [.int .i32 a', .int .i32 b', .int .i32 c'] := ⟨h0, h1, h2, trivial⟩
theorem damp_i32 {b l g q m : Int} (hm : I32 m) : I32 (damp b l g q m) := clampv_i32 _ _ hm
theorem rbdot_S (b0 b1 b2 l0 l1 l2 g q m : Int) (w : World) (hb0 : I32 b0) (hb1 : I32 b1) (hb2 : I32 b2) (hl0 : I32 l0) (hl1 : I32 l1) (hl2 : I32 l2) (hg : I32 g) (hm : I32 m) :
    RetS Try.prog 12 [v3 b0 b1 b2, v3 l0 l1 l2, i32 g, i64 q, i32 m] w (v3 (damp b0 l0 g q m) (damp b1 l1 g q m) (damp b2 l2 g q m)) := by
  have k0 := hb0
  have k1 := hb1
  have k2 := hb2
  have k3 := hl0
  have k4 := hl1
  have k5 := hl2
  have k6 := hg
  have k7 := hm
  have s0 := sat_i32 (b0 - l0)
  have s1 := sat_i32 (b1 - l1)
  have s2 := sat_i32 (b2 - l2)
  have t0 := sat_i32 (sat (b0 - l0) * g / 2 ^ pt q)
  have t1 := sat_i32 (sat (b1 - l1) * g / 2 ^ pt q)
  have t2 := sat_i32 (sat (b2 - l2) * g / 2 ^ pt q)
  have u0 := sat_i32 (-sat (sat (b0 - l0) * g / 2 ^ pt q))
  have u1 := sat_i32 (-sat (sat (b1 - l1) * g / 2 ^ pt q))
  have u2 := sat_i32 (-sat (sat (b2 - l2) * g / 2 ^ pt q))
  unfold I32 at k0 k1 k2 k3 k4 k5 k6 k7 s0 s1 s2 t0 t1 t2 u0 u1 u2
  refine ret_x tab_ok Try.func12 rfl Try.ntmps12 (by rfl) ?_; simp only [argX, Nat.reduceAdd, Nat.zero_add]; conv => whnf
  repeat' (first
    | (fail)
    | (refine run_c tab_ok ?_; conv => whnf)
    | (refine side_id ?_; refine side_i (by first | rfl | exact ⟨rfl, rfl, rfl, rfl⟩ | trivial | (simp [allOne, partsOne, Value.cells, Value.oneCell']; done) | fail) ?_; conv => whnf)
    | (refine ar_id ?_; refine ar_in (by (first | (simp only [Int.reduceAdd, Int.reduceSub, Int.reduceMul, Int.reduceNeg, Int.reduceMod, Int.reduceDiv, Int.reduceTMod, Int.reduceTDiv, Int.zero_add, Int.add_zero]; done) | (simp only [Int.reduceAdd, Int.reduceSub, Int.reduceMul, Int.reduceNeg, Int.reduceMod, Int.reduceDiv, Int.reduceTMod, Int.reduceTDiv, Int.zero_add, Int.add_zero]; rfl) | rfl)) (by (dsimp only [inR]; first | decide | omega)) ?_; conv => whnf)
    | (refine new_i ?_; intro _; conv => whnf)
    | (refine br_id ?_; first
      | (refine br_t (by first | decide | omega | (with_reducible rfl) | fail | (simp only [cellEq, toB]; omega) | (simp only [cellEq, toB]; simp; done) | fail) ?_; conv => whnf)
      | (refine br_f (by first | decide | omega | (with_reducible exact Bool.false_ne_true) | (with_reducible refine not_not_intro ?_; fail) | (simp only [cellEq, toB]; omega) | (simp only [cellEq, toB]; simp; done) | fail) ?_; conv => whnf)
      | ((refine br_any (fun h => ?_) (fun h => ?_) <;> (try simp only [cellEq, toB, Bool.not_eq_true, Bool.not_eq_false] at h) <;> (try (exfalso; first | omega | contradiction | (simp at h; done) | fail); done) <;> conv => whnf)))
    | (refine ix_id ?_; first
      | (refine ix_lit (by first | decide | omega) (by (first | (simp only [Nat.zero_add, Nat.add_zero, Nat.mul_one, Nat.reduceAdd, Nat.reduceMul, Int.reduceToNat, Int.toNat_natCast, Int.toNat_zero, Int.toNat_one, Nat.zero_mul]; done) | (simp only [Nat.zero_add, Nat.add_zero, Nat.mul_one, Nat.reduceAdd, Nat.reduceMul, Int.reduceToNat, Int.toNat_natCast, Int.toNat_zero, Int.toNat_one, Nat.zero_mul]; rfl) | rfl)) (by rfl) ?_; conv => whnf)
      | (refine ix_sym (by omega) ?_; conv => whnf))
    | (refine lcall_id ?_; first | (refine lcall_ret (fun w' hl => rsat_S w' _) ?_; conv => whnf) | (refine lcall_ret (fun w' hl => times_S _ _ _ w' (by first | assumption | exact sat_i32 _ | exact crs_i32 _ _ _ _ _ | exact axv_i32 _ _ | exact clampv_i32 _ _ (by assumption) | exact i32_of (by omega) (by omega)) (by first | assumption | exact sat_i32 _ | exact crs_i32 _ _ _ _ _ | exact axv_i32 _ _ | exact clampv_i32 _ _ (by assumption) | exact i32_of (by omega) (by omega))) ?_; conv => whnf) | (refine lcall_ret (fun w' hl => rclamp_S _ _ w' (by first | assumption | exact sat_i32 _ | exact crs_i32 _ _ _ _ _ | exact axv_i32 _ _ | exact clampv_i32 _ _ (by assumption) | exact i32_of (by omega) (by omega)) (i32_i64 (sat_i32 _))) ?_; conv => whnf))
    | (refine lload_id ?_; first
      | (fail)
      | (refine load_old _ (by with_reducible assumption) (by simp; done) ?_; conv => whnf))
    | (refine lixs_id ?_; fail)
    | (refine ex_id ?_; refine ex_z (by (first | (simp only [Int.reduceAdd, Int.reduceSub, Int.reduceMul, Int.reduceNeg, Int.reduceMod, Int.reduceDiv, Int.reduceTMod, Int.reduceTDiv, Int.zero_add, Int.add_zero]; done) | (simp only [Int.reduceAdd, Int.reduceSub, Int.reduceMul, Int.reduceNeg, Int.reduceMod, Int.reduceDiv, Int.reduceTMod, Int.reduceTDiv, Int.zero_add, Int.add_zero]; rfl) | rfl)) ?_; conv => whnf)
    | (refine sh_id ?_; refine sh_z (by omega) (by (first | (simp only [Int.reduceAdd, Int.reduceSub, Int.reduceMul, Int.reduceNeg, Int.reduceMod, Int.reduceDiv, Int.reduceTMod, Int.reduceTDiv, Int.zero_add, Int.add_zero]; done) | (simp only [Int.reduceAdd, Int.reduceSub, Int.reduceMul, Int.reduceNeg, Int.reduceMod, Int.reduceDiv, Int.reduceTMod, Int.reduceTDiv, Int.zero_add, Int.add_zero]; rfl) | rfl)) ?_; conv => whnf)
    | (refine quo_id ?_; first
      | (refine quo_in (by omega) (by (first | (simp only [Int.reduceAdd, Int.reduceSub, Int.reduceMul, Int.reduceNeg, Int.reduceMod, Int.reduceDiv, Int.reduceTMod, Int.reduceTDiv, Int.zero_add, Int.add_zero]; done) | (simp only [Int.reduceAdd, Int.reduceSub, Int.reduceMul, Int.reduceNeg, Int.reduceMod, Int.reduceDiv, Int.reduceTMod, Int.reduceTDiv, Int.zero_add, Int.add_zero]; rfl) | rfl)) (by (dsimp only [inR]; first | decide | omega)) ?_; conv => whnf)
      | (refine quo_t (by omega) (by (dsimp only [inR]; first | decide | omega)) ?_; conv => whnf))
    | (refine rem_id ?_; first
      | (refine rem_in (by omega) (by (first | (simp only [Int.reduceAdd, Int.reduceSub, Int.reduceMul, Int.reduceNeg, Int.reduceMod, Int.reduceDiv, Int.reduceTMod, Int.reduceTDiv, Int.zero_add, Int.add_zero]; done) | (simp only [Int.reduceAdd, Int.reduceSub, Int.reduceMul, Int.reduceNeg, Int.reduceMod, Int.reduceDiv, Int.reduceTMod, Int.reduceTDiv, Int.zero_add, Int.add_zero]; rfl) | rfl)) ?_; conv => whnf)
      | (refine rem_t (by omega) ?_; conv => whnf))
    | (refine app_id ?_; refine app_i (by (first | (simp only [Nat.zero_add, Nat.add_zero, Nat.mul_one, Nat.reduceAdd, Nat.reduceMul, Int.reduceToNat, Int.toNat_natCast, Int.toNat_zero, Int.toNat_one, Nat.zero_mul]; done) | (simp only [Nat.zero_add, Nat.add_zero, Nat.mul_one, Nat.reduceAdd, Nat.reduceMul, Int.reduceToNat, Int.toNat_natCast, Int.toNat_zero, Int.toNat_one, Nat.zero_mul]; rfl) | rfl)) (by (first | (simp only [List.nil_append, List.cons_append, List.append_nil]; done) | (simp only [List.nil_append, List.cons_append, List.append_nil]; rfl) | rfl)) (by omega) (by omega) ?_; intro _ _; conv => whnf)
    | (refine sl_id ?_; fail)
    | (refine eff_id ?_; fail)
    | (refine val_id ?_; fail)
    | (refine x_rnd ?_)
    | (refine x_rnd' ?_)
    | (refine xdrw_id ?_; first | (refine x_drw tab_ok (id := 5) [] [] [0, 1, 2, 3, 4, 5, 6, 7, 8, 9, 10, 11] followsMixed (by kernel_rfl) (by rfl) (by rfl) ?_; conv => whnf)))
  refine x_rounds 4 ?_
  repeat' (first
    | (fail)
    | (refine run_c tab_ok ?_; conv => whnf)
    | (refine side_id ?_; refine side_i (by first | rfl | exact ⟨rfl, rfl, rfl, rfl⟩ | trivial | (simp [allOne, partsOne, Value.cells, Value.oneCell']; done) | fail) ?_; conv => whnf)
    | (refine ar_id ?_; refine ar_in (by (first | (simp only [Int.reduceAdd, Int.reduceSub, Int.reduceMul, Int.reduceNeg, Int.reduceMod, Int.reduceDiv, Int.reduceTMod, Int.reduceTDiv, Int.zero_add, Int.add_zero]; done) | (simp only [Int.reduceAdd, Int.reduceSub, Int.reduceMul, Int.reduceNeg, Int.reduceMod, Int.reduceDiv, Int.reduceTMod, Int.reduceTDiv, Int.zero_add, Int.add_zero]; rfl) | rfl)) (by (dsimp only [inR]; first | decide | omega)) ?_; conv => whnf)
    | (refine new_i ?_; intro _; conv => whnf)
    | (refine br_id ?_; first
      | (refine br_t (by first | decide | omega | (with_reducible rfl) | fail | (simp only [cellEq, toB]; omega) | (simp only [cellEq, toB]; simp; done) | fail) ?_; conv => whnf)
      | (refine br_f (by first | decide | omega | (with_reducible exact Bool.false_ne_true) | (with_reducible refine not_not_intro ?_; fail) | (simp only [cellEq, toB]; omega) | (simp only [cellEq, toB]; simp; done) | fail) ?_; conv => whnf)
      | ((refine br_any (fun h => ?_) (fun h => ?_) <;> (try simp only [cellEq, toB, Bool.not_eq_true, Bool.not_eq_false] at h) <;> (try (exfalso; first | omega | contradiction | (simp at h; done) | fail); done) <;> conv => whnf)))
    | (refine ix_id ?_; first
      | (refine ix_lit (by first | decide | omega) (by (first | (simp only [Nat.zero_add, Nat.add_zero, Nat.mul_one, Nat.reduceAdd, Nat.reduceMul, Int.reduceToNat, Int.toNat_natCast, Int.toNat_zero, Int.toNat_one, Nat.zero_mul]; done) | (simp only [Nat.zero_add, Nat.add_zero, Nat.mul_one, Nat.reduceAdd, Nat.reduceMul, Int.reduceToNat, Int.toNat_natCast, Int.toNat_zero, Int.toNat_one, Nat.zero_mul]; rfl) | rfl)) (by rfl) ?_; conv => whnf)
      | (refine ix_sym (by omega) ?_; conv => whnf))
    | (refine lcall_id ?_; first | (refine lcall_ret (fun w' hl => rsat_S w' _) ?_; conv => whnf) | (refine lcall_ret (fun w' hl => times_S _ _ _ w' (by first | assumption | exact sat_i32 _ | exact crs_i32 _ _ _ _ _ | exact axv_i32 _ _ | exact clampv_i32 _ _ (by assumption) | exact i32_of (by omega) (by omega)) (by first | assumption | exact sat_i32 _ | exact crs_i32 _ _ _ _ _ | exact axv_i32 _ _ | exact clampv_i32 _ _ (by assumption) | exact i32_of (by omega) (by omega))) ?_; conv => whnf) | (refine lcall_ret (fun w' hl => rclamp_S _ _ w' (by first | assumption | exact sat_i32 _ | exact crs_i32 _ _ _ _ _ | exact axv_i32 _ _ | exact clampv_i32 _ _ (by assumption) | exact i32_of (by omega) (by omega)) (i32_i64 (sat_i32 _))) ?_; conv => whnf))
    | (refine lload_id ?_; first
      | (fail)
      | (refine load_old _ (by with_reducible assumption) (by simp; done) ?_; conv => whnf))
    | (refine lixs_id ?_; fail)
    | (refine ex_id ?_; refine ex_z (by (first | (simp only [Int.reduceAdd, Int.reduceSub, Int.reduceMul, Int.reduceNeg, Int.reduceMod, Int.reduceDiv, Int.reduceTMod, Int.reduceTDiv, Int.zero_add, Int.add_zero]; done) | (simp only [Int.reduceAdd, Int.reduceSub, Int.reduceMul, Int.reduceNeg, Int.reduceMod, Int.reduceDiv, Int.reduceTMod, Int.reduceTDiv, Int.zero_add, Int.add_zero]; rfl) | rfl)) ?_; conv => whnf)
    | (refine sh_id ?_; refine sh_z (by omega) (by (first | (simp only [Int.reduceAdd, Int.reduceSub, Int.reduceMul, Int.reduceNeg, Int.reduceMod, Int.reduceDiv, Int.reduceTMod, Int.reduceTDiv, Int.zero_add, Int.add_zero]; done) | (simp only [Int.reduceAdd, Int.reduceSub, Int.reduceMul, Int.reduceNeg, Int.reduceMod, Int.reduceDiv, Int.reduceTMod, Int.reduceTDiv, Int.zero_add, Int.add_zero]; rfl) | rfl)) ?_; conv => whnf)
    | (refine quo_id ?_; first
      | (refine quo_in (by omega) (by (first | (simp only [Int.reduceAdd, Int.reduceSub, Int.reduceMul, Int.reduceNeg, Int.reduceMod, Int.reduceDiv, Int.reduceTMod, Int.reduceTDiv, Int.zero_add, Int.add_zero]; done) | (simp only [Int.reduceAdd, Int.reduceSub, Int.reduceMul, Int.reduceNeg, Int.reduceMod, Int.reduceDiv, Int.reduceTMod, Int.reduceTDiv, Int.zero_add, Int.add_zero]; rfl) | rfl)) (by (dsimp only [inR]; first | decide | omega)) ?_; conv => whnf)
      | (refine quo_t (by omega) (by (dsimp only [inR]; first | decide | omega)) ?_; conv => whnf))
    | (refine rem_id ?_; first
      | (refine rem_in (by omega) (by (first | (simp only [Int.reduceAdd, Int.reduceSub, Int.reduceMul, Int.reduceNeg, Int.reduceMod, Int.reduceDiv, Int.reduceTMod, Int.reduceTDiv, Int.zero_add, Int.add_zero]; done) | (simp only [Int.reduceAdd, Int.reduceSub, Int.reduceMul, Int.reduceNeg, Int.reduceMod, Int.reduceDiv, Int.reduceTMod, Int.reduceTDiv, Int.zero_add, Int.add_zero]; rfl) | rfl)) ?_; conv => whnf)
      | (refine rem_t (by omega) ?_; conv => whnf))
    | (refine app_id ?_; refine app_i (by (first | (simp only [Nat.zero_add, Nat.add_zero, Nat.mul_one, Nat.reduceAdd, Nat.reduceMul, Int.reduceToNat, Int.toNat_natCast, Int.toNat_zero, Int.toNat_one, Nat.zero_mul]; done) | (simp only [Nat.zero_add, Nat.add_zero, Nat.mul_one, Nat.reduceAdd, Nat.reduceMul, Int.reduceToNat, Int.toNat_natCast, Int.toNat_zero, Int.toNat_one, Nat.zero_mul]; rfl) | rfl)) (by (first | (simp only [List.nil_append, List.cons_append, List.append_nil]; done) | (simp only [List.nil_append, List.cons_append, List.append_nil]; rfl) | rfl)) (by omega) (by omega) ?_; intro _ _; conv => whnf)
    | (refine sl_id ?_; fail)
    | (refine eff_id ?_; fail)
    | (refine val_id ?_; fail)
    | (refine x_rnd ?_)
    | (refine x_rnd' ?_)
    | (refine xdrw_id ?_; first | (refine x_drw tab_ok (id := 5) [] [] [0, 1, 2, 3, 4, 5, 6, 7, 8, 9, 10, 11] followsMixed (by kernel_rfl) (by rfl) (by rfl) ?_; conv => whnf)))
  (refine fin_ret ?_)
  rfl

theorem damp_facts (b l g q m : Int) (hb : I32 b) (hl : I32 l) (hg : I32 g) :
    (0 ≤ g → q ≤ 0 → 0 < b - l → damp b l g q m ≤ 0) ∧ (0 ≤ g → q ≤ 0 → b - l < -1 → 0 ≤ damp b l g q m) ∧ damp b l g q m ≤ max m 0 ∧ -(max m 0) ≤ damp b l g q m := by
  have c : ∀ x, clampv x (-pos m) (pos m) ≤ max m 0 ∧ -(max m 0) ≤ clampv x (-pos m) (pos m) ∧ (x ≤ 0 → clampv x (-pos m) (pos m) ≤ 0) ∧ (0 ≤ x → 0 ≤ clampv x (-pos m) (pos m)) := fun x => by
    unfold clampv pos
    split
    · omega
    · split <;> omega
  have hs : ∀ x, (x ≤ 0 → sat x ≤ 0) ∧ (0 ≤ x → 0 ≤ sat x) := fun x => by
    unfold sat
    split
    · omega
    · split <;> omega
  have hq : q ≤ 0 → pt q = 0 := fun h => by
    unfold pt
    split
    · rfl
    · rw [if_neg (by omega)]; omega
  unfold damp
  obtain ⟨c1, c2, c3, c4⟩ := c (sat (-(sat (sat (b - l) * g / 2 ^ pt q))))
  refine ⟨fun h0 h1 h2 => c3 ?_, fun h0 h1 h2 => c4 ?_, c1, c2⟩
  · rw [hq h1]
    have h3 : 0 ≤ sat (b - l) * g := Int.mul_nonneg ((hs _).2 (by omega)) h0
    have h4 := (hs (sat (b - l) * g / 2 ^ 0)).2 (by simpa using h3)
    exact (hs _).1 (by omega)
  · rw [hq h1]
    have h3 : sat (b - l) * g ≤ 0 := Int.mul_nonpos_of_nonpos_of_nonneg ((hs _).1 (by omega)) h0
    have h4 := (hs (sat (b - l) * g / 2 ^ 0)).1 (by simpa using h3)
    exact (hs _).2 (by omega)


theorem awake23_S (w : World) : RetS Try.prog 10 [] w (.lit true) := by
  refine ret_x tab_ok Try.func10 rfl Try.ntmps10 (by rfl) ?_; simp only [argX, Nat.reduceAdd, Nat.zero_add]; conv => whnf
  repeat' (first
    | (fail)
    | (refine run_c tab_ok ?_; conv => whnf)
    | (refine side_id ?_; refine side_i (by first | rfl | exact ⟨rfl, rfl, rfl, rfl⟩ | trivial | (simp [allOne, partsOne, Value.cells, Value.oneCell']; done) | fail) ?_; conv => whnf)
    | (refine ar_id ?_; refine ar_in (by (first | (simp only [Int.reduceAdd, Int.reduceSub, Int.reduceMul, Int.reduceNeg, Int.reduceMod, Int.reduceDiv, Int.reduceTMod, Int.reduceTDiv, Int.zero_add, Int.add_zero]; done) | (simp only [Int.reduceAdd, Int.reduceSub, Int.reduceMul, Int.reduceNeg, Int.reduceMod, Int.reduceDiv, Int.reduceTMod, Int.reduceTDiv, Int.zero_add, Int.add_zero]; rfl) | rfl)) (by (dsimp only [inR]; first | decide | omega)) ?_; conv => whnf)
    | (refine new_i ?_; intro _; conv => whnf)
    | (refine br_id ?_; first
      | (refine br_t (by first | decide | omega | (with_reducible rfl) | (with_reducible exact v3_eq rfl rfl rfl) | (simp only [cellEq, toB]; simp; done) | fail) ?_; conv => whnf)
      | (refine br_f (by first | decide | omega | (with_reducible exact Bool.false_ne_true) | (with_reducible refine not_not_intro ?_; fail) | (simp only [cellEq, toB]; omega) | (simp only [cellEq, toB]; simp; done) | fail) ?_; conv => whnf)
      | ((refine br_any (fun h => ?_) (fun h => ?_) <;> (try simp only [cellEq, toB, Bool.not_eq_true, Bool.not_eq_false] at h) <;> (try (exfalso; first | omega | contradiction | (simp at h; done) | fail); done) <;> conv => whnf)))
    | (refine ix_id ?_; first
      | (refine ix_lit (by first | decide | omega) (by (first | (simp only [Nat.zero_add, Nat.add_zero, Nat.mul_one, Nat.reduceAdd, Nat.reduceMul, Int.reduceToNat, Int.toNat_natCast, Int.toNat_zero, Int.toNat_one, Nat.zero_mul]; done) | (simp only [Nat.zero_add, Nat.add_zero, Nat.mul_one, Nat.reduceAdd, Nat.reduceMul, Int.reduceToNat, Int.toNat_natCast, Int.toNat_zero, Int.toNat_one, Nat.zero_mul]; rfl) | rfl)) (by rfl) ?_; conv => whnf)
      | (refine ix_sym (by omega) ?_; conv => whnf))
    | (refine lcall_id ?_; first | (refine lcall_ret (fun w' hl => bdotno_S 10 0 0 0 0 0 1 0 100 w' (by unfold I32; omega) (by unfold I32; omega) (by unfold I32; omega) (by unfold I32; omega) (by unfold I32; omega) (by unfold I32; omega) (by unfold I32; omega) (by unfold I32; omega)) ?_; conv => whnf) | (refine lcall_ret (fun w' hl => axis_S _ w') ?_; conv => whnf))
    | (refine lload_id ?_; first
      | (fail)
      | (refine load_old _ (by with_reducible assumption) (by simp; done) ?_; conv => whnf))
    | (refine lixs_id ?_; fail)
    | (refine ex_id ?_; refine ex_z (by (first | (simp only [Int.reduceAdd, Int.reduceSub, Int.reduceMul, Int.reduceNeg, Int.reduceMod, Int.reduceDiv, Int.reduceTMod, Int.reduceTDiv, Int.zero_add, Int.add_zero]; done) | (simp only [Int.reduceAdd, Int.reduceSub, Int.reduceMul, Int.reduceNeg, Int.reduceMod, Int.reduceDiv, Int.reduceTMod, Int.reduceTDiv, Int.zero_add, Int.add_zero]; rfl) | rfl)) ?_; conv => whnf)
    | (refine sh_id ?_; refine sh_z (by omega) (by (first | (simp only [Int.reduceAdd, Int.reduceSub, Int.reduceMul, Int.reduceNeg, Int.reduceMod, Int.reduceDiv, Int.reduceTMod, Int.reduceTDiv, Int.zero_add, Int.add_zero]; done) | (simp only [Int.reduceAdd, Int.reduceSub, Int.reduceMul, Int.reduceNeg, Int.reduceMod, Int.reduceDiv, Int.reduceTMod, Int.reduceTDiv, Int.zero_add, Int.add_zero]; rfl) | rfl)) ?_; conv => whnf)
    | (refine quo_id ?_; first
      | (refine quo_in (by omega) (by (first | (simp only [Int.reduceAdd, Int.reduceSub, Int.reduceMul, Int.reduceNeg, Int.reduceMod, Int.reduceDiv, Int.reduceTMod, Int.reduceTDiv, Int.zero_add, Int.add_zero]; done) | (simp only [Int.reduceAdd, Int.reduceSub, Int.reduceMul, Int.reduceNeg, Int.reduceMod, Int.reduceDiv, Int.reduceTMod, Int.reduceTDiv, Int.zero_add, Int.add_zero]; rfl) | rfl)) (by (dsimp only [inR]; first | decide | omega)) ?_; conv => whnf)
      | (refine quo_t (by omega) (by (dsimp only [inR]; first | decide | omega)) ?_; conv => whnf))
    | (refine rem_id ?_; first
      | (refine rem_in (by omega) (by (first | (simp only [Int.reduceAdd, Int.reduceSub, Int.reduceMul, Int.reduceNeg, Int.reduceMod, Int.reduceDiv, Int.reduceTMod, Int.reduceTDiv, Int.zero_add, Int.add_zero]; done) | (simp only [Int.reduceAdd, Int.reduceSub, Int.reduceMul, Int.reduceNeg, Int.reduceMod, Int.reduceDiv, Int.reduceTMod, Int.reduceTDiv, Int.zero_add, Int.add_zero]; rfl) | rfl)) ?_; conv => whnf)
      | (refine rem_t (by omega) ?_; conv => whnf))
    | (refine app_id ?_; refine app_i (by (first | (simp only [Nat.zero_add, Nat.add_zero, Nat.mul_one, Nat.reduceAdd, Nat.reduceMul, Int.reduceToNat, Int.toNat_natCast, Int.toNat_zero, Int.toNat_one, Nat.zero_mul]; done) | (simp only [Nat.zero_add, Nat.add_zero, Nat.mul_one, Nat.reduceAdd, Nat.reduceMul, Int.reduceToNat, Int.toNat_natCast, Int.toNat_zero, Int.toNat_one, Nat.zero_mul]; rfl) | rfl)) (by (first | (simp only [List.nil_append, List.cons_append, List.append_nil]; done) | (simp only [List.nil_append, List.cons_append, List.append_nil]; rfl) | rfl)) (by omega) (by omega) ?_; intro _ _; conv => whnf)
    | (refine sl_id ?_; fail)
    | (refine eff_id ?_; fail)
    | (refine val_id ?_; fail)
    | (refine x_rnd ?_)
    | (refine x_rnd' ?_)
    | (refine xdrw_id ?_; fail))
  all_goals (
    (refine fin_ret ?_)
    rfl)
set_option maxHeartbeats 1000000 in
theorem steerDamps_ret (b0 b1 b2 l0 l1 l2 g q mo : Int) (w : World) (hb0 : I32 b0) (hb1 : I32 b1) (hb2 : I32 b2) (hl0 : I32 l0) (hl1 : I32 l1) (hl2 : I32 l2) (hg : I32 g) (hq : inR .i64 q) (hm : I32 mo) :
    RetS Try.prog 3 [v3 b0 b1 b2, v3 l0 l1 l2, i32 g, i64 q, i32 mo] w (.lit true) := by
  have k0 := hb0
  have k1 := hb1
  have k2 := hb2
  have k3 := hl0
  have k4 := hl1
  have k5 := hl2
  have k6 := hm
  have k7 := hg
  unfold I32 at k0 k1 k2 k3 k4 k5 k6 k7
  refine ret_x tab_ok Try.func3 rfl Try.ntmps3 (by rfl) ?_; simp only [argX, Nat.reduceAdd, Nat.zero_add]; conv => whnf
  repeat' (first
    | (fail)
    | (refine run_c tab_ok ?_; conv => whnf)
    | (refine side_id ?_; refine side_i (by first | rfl | exact ⟨rfl, rfl, rfl, rfl⟩ | trivial | (simp [allOne, partsOne, Value.cells, Value.oneCell']; done) | fail) ?_; conv => whnf)
    | (refine ar_id ?_; refine ar_in (by (first | (simp only [Int.reduceAdd, Int.reduceSub, Int.reduceMul, Int.reduceNeg, Int.reduceMod, Int.reduceDiv, Int.reduceTMod, Int.reduceTDiv, Int.zero_add, Int.add_zero]; done) | (simp only [Int.reduceAdd, Int.reduceSub, Int.reduceMul, Int.reduceNeg, Int.reduceMod, Int.reduceDiv, Int.reduceTMod, Int.reduceTDiv, Int.zero_add, Int.add_zero]; rfl) | rfl)) (by (dsimp only [inR]; first | decide | omega)) ?_; conv => whnf)
    | (refine new_i ?_; intro _; conv => whnf)
    | (refine br_id ?_; first
      | (refine br_t (by first | decide | omega | (with_reducible rfl) | (with_reducible exact v3_eq rfl rfl rfl) | (simp only [cellEq, toB]; simp; done) | fail) ?_; conv => whnf)
      | (refine br_f (by first | decide | omega | (with_reducible exact Bool.false_ne_true) | (with_reducible refine not_not_intro ?_; fail) | (simp only [cellEq, toB]; omega) | (simp only [cellEq, toB]; simp; done) | fail) ?_; conv => whnf)
      | ((refine br_any (fun h => ?_) (fun h => ?_) <;> (try simp only [cellEq, toB, Bool.not_eq_true, Bool.not_eq_false] at h) <;> (try (exfalso; first | omega | contradiction | (simp at h; done) | fail); done) <;> conv => whnf)))
    | (refine ix_id ?_; first
      | (refine ix_lit (by first | decide | omega) (by (first | (simp only [Nat.zero_add, Nat.add_zero, Nat.mul_one, Nat.reduceAdd, Nat.reduceMul, Int.reduceToNat, Int.toNat_natCast, Int.toNat_zero, Int.toNat_one, Nat.zero_mul]; done) | (simp only [Nat.zero_add, Nat.add_zero, Nat.mul_one, Nat.reduceAdd, Nat.reduceMul, Int.reduceToNat, Int.toNat_natCast, Int.toNat_zero, Int.toNat_one, Nat.zero_mul]; rfl) | rfl)) (by rfl) ?_; conv => whnf)
      | (refine ix_sym (by omega) ?_; conv => whnf))
    | (refine lcall_id ?_; first | (refine lcall_ret (fun w' hl => awake23_S w') ?_; conv => whnf) | (refine lcall_ret (fun w' hl => bdotno_S _ _ _ _ _ _ _ _ _ w' (by first | assumption | exact sat_i32 _ | exact crs_i32 _ _ _ _ _ | exact axv_i32 _ _ | exact clampv_i32 _ _ (by assumption) | exact i32_of (by omega) (by omega)) (by first | assumption | exact sat_i32 _ | exact crs_i32 _ _ _ _ _ | exact axv_i32 _ _ | exact clampv_i32 _ _ (by assumption) | exact i32_of (by omega) (by omega)) (by first | assumption | exact sat_i32 _ | exact crs_i32 _ _ _ _ _ | exact axv_i32 _ _ | exact clampv_i32 _ _ (by assumption) | exact i32_of (by omega) (by omega)) (by first | assumption | exact sat_i32 _ | exact crs_i32 _ _ _ _ _ | exact axv_i32 _ _ | exact clampv_i32 _ _ (by assumption) | exact i32_of (by omega) (by omega)) (by first | assumption | exact sat_i32 _ | exact crs_i32 _ _ _ _ _ | exact axv_i32 _ _ | exact clampv_i32 _ _ (by assumption) | exact i32_of (by omega) (by omega)) (by first | assumption | exact sat_i32 _ | exact crs_i32 _ _ _ _ _ | exact axv_i32 _ _ | exact clampv_i32 _ _ (by assumption) | exact i32_of (by omega) (by omega)) (by first | assumption | exact sat_i32 _ | exact crs_i32 _ _ _ _ _ | exact axv_i32 _ _ | exact clampv_i32 _ _ (by assumption) | exact i32_of (by omega) (by omega)) (by first | assumption | exact sat_i32 _ | exact crs_i32 _ _ _ _ _ | exact axv_i32 _ _ | exact clampv_i32 _ _ (by assumption) | exact i32_of (by omega) (by omega))) ?_; conv => whnf) | (refine lcall_ret (fun w' hl => bdotyes_S _ _ _ _ _ _ _ _ _ w') ?_; conv => whnf) | (refine lcall_ret (fun w' hl => rbdot_S _ _ _ _ _ _ _ _ _ w' (by first | assumption | exact sat_i32 _ | exact crs_i32 _ _ _ _ _ | exact axv_i32 _ _ | exact clampv_i32 _ _ (by assumption) | exact i32_of (by omega) (by omega)) (by first | assumption | exact sat_i32 _ | exact crs_i32 _ _ _ _ _ | exact axv_i32 _ _ | exact clampv_i32 _ _ (by assumption) | exact i32_of (by omega) (by omega)) (by first | assumption | exact sat_i32 _ | exact crs_i32 _ _ _ _ _ | exact axv_i32 _ _ | exact clampv_i32 _ _ (by assumption) | exact i32_of (by omega) (by omega)) (by first | assumption | exact sat_i32 _ | exact crs_i32 _ _ _ _ _ | exact axv_i32 _ _ | exact clampv_i32 _ _ (by assumption) | exact i32_of (by omega) (by omega)) (by first | assumption | exact sat_i32 _ | exact crs_i32 _ _ _ _ _ | exact axv_i32 _ _ | exact clampv_i32 _ _ (by assumption) | exact i32_of (by omega) (by omega)) (by first | assumption | exact sat_i32 _ | exact crs_i32 _ _ _ _ _ | exact axv_i32 _ _ | exact clampv_i32 _ _ (by assumption) | exact i32_of (by omega) (by omega)) (by first | assumption | exact sat_i32 _ | exact crs_i32 _ _ _ _ _ | exact axv_i32 _ _ | exact clampv_i32 _ _ (by assumption) | exact i32_of (by omega) (by omega)) (by first | assumption | exact sat_i32 _ | exact crs_i32 _ _ _ _ _ | exact axv_i32 _ _ | exact clampv_i32 _ _ (by assumption) | exact i32_of (by omega) (by omega))) ?_; conv => whnf))
    | (refine lload_id ?_; first
      | (fail)
      | (refine load_old _ (by with_reducible assumption) (by simp; done) ?_; conv => whnf))
    | (refine lixs_id ?_; fail)
    | (refine ex_id ?_; refine ex_z (by (first | (simp only [Int.reduceAdd, Int.reduceSub, Int.reduceMul, Int.reduceNeg, Int.reduceMod, Int.reduceDiv, Int.reduceTMod, Int.reduceTDiv, Int.zero_add, Int.add_zero]; done) | (simp only [Int.reduceAdd, Int.reduceSub, Int.reduceMul, Int.reduceNeg, Int.reduceMod, Int.reduceDiv, Int.reduceTMod, Int.reduceTDiv, Int.zero_add, Int.add_zero]; rfl) | rfl)) ?_; conv => whnf)
    | (refine sh_id ?_; refine sh_z (by omega) (by (first | (simp only [Int.reduceAdd, Int.reduceSub, Int.reduceMul, Int.reduceNeg, Int.reduceMod, Int.reduceDiv, Int.reduceTMod, Int.reduceTDiv, Int.zero_add, Int.add_zero]; done) | (simp only [Int.reduceAdd, Int.reduceSub, Int.reduceMul, Int.reduceNeg, Int.reduceMod, Int.reduceDiv, Int.reduceTMod, Int.reduceTDiv, Int.zero_add, Int.add_zero]; rfl) | rfl)) ?_; conv => whnf)
    | (refine quo_id ?_; first
      | (refine quo_in (by omega) (by (first | (simp only [Int.reduceAdd, Int.reduceSub, Int.reduceMul, Int.reduceNeg, Int.reduceMod, Int.reduceDiv, Int.reduceTMod, Int.reduceTDiv, Int.zero_add, Int.add_zero]; done) | (simp only [Int.reduceAdd, Int.reduceSub, Int.reduceMul, Int.reduceNeg, Int.reduceMod, Int.reduceDiv, Int.reduceTMod, Int.reduceTDiv, Int.zero_add, Int.add_zero]; rfl) | rfl)) (by (dsimp only [inR]; first | decide | omega)) ?_; conv => whnf)
      | (refine quo_t (by omega) (by (dsimp only [inR]; first | decide | omega)) ?_; conv => whnf))
    | (refine rem_id ?_; first
      | (refine rem_in (by omega) (by (first | (simp only [Int.reduceAdd, Int.reduceSub, Int.reduceMul, Int.reduceNeg, Int.reduceMod, Int.reduceDiv, Int.reduceTMod, Int.reduceTDiv, Int.zero_add, Int.add_zero]; done) | (simp only [Int.reduceAdd, Int.reduceSub, Int.reduceMul, Int.reduceNeg, Int.reduceMod, Int.reduceDiv, Int.reduceTMod, Int.reduceTDiv, Int.zero_add, Int.add_zero]; rfl) | rfl)) ?_; conv => whnf)
      | (refine rem_t (by omega) ?_; conv => whnf))
    | (refine app_id ?_; refine app_i (by (first | (simp only [Nat.zero_add, Nat.add_zero, Nat.mul_one, Nat.reduceAdd, Nat.reduceMul, Int.reduceToNat, Int.toNat_natCast, Int.toNat_zero, Int.toNat_one, Nat.zero_mul]; done) | (simp only [Nat.zero_add, Nat.add_zero, Nat.mul_one, Nat.reduceAdd, Nat.reduceMul, Int.reduceToNat, Int.toNat_natCast, Int.toNat_zero, Int.toNat_one, Nat.zero_mul]; rfl) | rfl)) (by (first | (simp only [List.nil_append, List.cons_append, List.append_nil]; done) | (simp only [List.nil_append, List.cons_append, List.append_nil]; rfl) | rfl)) (by omega) (by omega) ?_; intro _ _; conv => whnf)
    | (refine sl_id ?_; fail)
    | (refine eff_id ?_; fail)
    | (refine val_id ?_; fail)
    | (refine x_rnd ?_)
    | (refine x_rnd' ?_)
    | (refine xdrw_id ?_; first | (refine x_drw tab_ok (id := 7) [] [] [0, 1, 2, 3, 4, 5, 6, 7, 8, 9] followsMixed (by kernel_rfl) (by rfl) (by rfl) ?_; conv => whnf) | (refine x_drw tab_ok (id := 13) [] [] [0, 1, 2, 3, 4, 5, 6, 7, 8, 9, 10, 11, 12, 13, 14, 15, 16, 17, 18] followsMixed (by kernel_rfl) (by rfl) (by rfl) ?_; conv => whnf)))
  refine x_loopA [] (fun i : Int => [(24, i64 i)]) (fun _ => []) (fun i => 0 ≤ i ∧ i ≤ 3) (fun i => (3 - i).toNat) 0 (by rfl) (by rfl) (by rfl) (by omega) (by (repeat (first | exact trivial | ((conv => whnf); refine And.intro (by first | rfl | exact congrArg (Value.int _) (by omega)) ?_)))) (by (repeat (first | exact trivial | ((conv => whnf); refine And.intro (by rfl) ?_)))) ?_
  rintro i hi
  dsimp only [appF, appM] at hi ⊢
  rcases (show i = 0 ∨ i = 1 ∨ i = 2 ∨ i = 3 by omega) with rfl | rfl | rfl | rfl
  · have d0 := damp_facts b0 l0 g q mo hb0 hl0 hg
    have d1 : I32 (damp b0 l0 g q mo) := damp_i32 hm
    unfold I32 at d1
    obtain ⟨d2, d3, d4, d5⟩ := d0
    repeat' (first
      | (fail)
      | (refine run_c tab_ok ?_; conv => whnf)
      | (refine side_id ?_; refine side_i (by first | rfl | exact ⟨rfl, rfl, rfl, rfl⟩ | trivial | (simp [allOne, partsOne, Value.cells, Value.oneCell']; done) | fail) ?_; conv => whnf)
      | (refine ar_id ?_; refine ar_in (by (first | (simp only [Int.reduceAdd, Int.reduceSub, Int.reduceMul, Int.reduceNeg, Int.reduceMod, Int.reduceDiv, Int.reduceTMod, Int.reduceTDiv, Int.zero_add, Int.add_zero]; done) | (simp only [Int.reduceAdd, Int.reduceSub, Int.reduceMul, Int.reduceNeg, Int.reduceMod, Int.reduceDiv, Int.reduceTMod, Int.reduceTDiv, Int.zero_add, Int.add_zero]; rfl) | rfl)) (by (dsimp only [inR]; first | decide | omega)) ?_; conv => whnf)
      | (refine new_i ?_; intro _; conv => whnf)
      | (refine br_id ?_; first
        | (refine br_t (by first | decide | omega | (with_reducible rfl) | (with_reducible exact v3_eq rfl rfl rfl) | (simp only [cellEq, toB]; simp; done) | fail) ?_; conv => whnf)
        | (refine br_f (by first | decide | omega | (with_reducible exact Bool.false_ne_true) | (with_reducible refine not_not_intro ?_; fail) | (simp only [cellEq, toB]; omega) | (simp only [cellEq, toB]; simp; done) | fail) ?_; conv => whnf)
        | ((refine br_any (fun h => ?_) (fun h => ?_) <;> (try simp only [cellEq, toB, Bool.not_eq_true, Bool.not_eq_false] at h) <;> (try (exfalso; first | omega | contradiction | (simp at h; done) | fail); done) <;> conv => whnf)))
      | (refine ix_id ?_; first
        | (refine ix_lit (by first | decide | omega) (by (first | (simp only [Nat.zero_add, Nat.add_zero, Nat.mul_one, Nat.reduceAdd, Nat.reduceMul, Int.reduceToNat, Int.toNat_natCast, Int.toNat_zero, Int.toNat_one, Nat.zero_mul]; done) | (simp only [Nat.zero_add, Nat.add_zero, Nat.mul_one, Nat.reduceAdd, Nat.reduceMul, Int.reduceToNat, Int.toNat_natCast, Int.toNat_zero, Int.toNat_one, Nat.zero_mul]; rfl) | rfl)) (by rfl) ?_; conv => whnf)
        | (refine ix_sym (by omega) ?_; conv => whnf))
      | (refine lcall_id ?_; first | (refine lcall_ret (fun w' hl => awake23_S w') ?_; conv => whnf) | (refine lcall_ret (fun w' hl => bdotno_S _ _ _ _ _ _ _ _ _ w' (by first | assumption | exact sat_i32 _ | exact crs_i32 _ _ _ _ _ | exact axv_i32 _ _ | exact clampv_i32 _ _ (by assumption) | exact i32_of (by omega) (by omega)) (by first | assumption | exact sat_i32 _ | exact crs_i32 _ _ _ _ _ | exact axv_i32 _ _ | exact clampv_i32 _ _ (by assumption) | exact i32_of (by omega) (by omega)) (by first | assumption | exact sat_i32 _ | exact crs_i32 _ _ _ _ _ | exact axv_i32 _ _ | exact clampv_i32 _ _ (by assumption) | exact i32_of (by omega) (by omega)) (by first | assumption | exact sat_i32 _ | exact crs_i32 _ _ _ _ _ | exact axv_i32 _ _ | exact clampv_i32 _ _ (by assumption) | exact i32_of (by omega) (by omega)) (by first | assumption | exact sat_i32 _ | exact crs_i32 _ _ _ _ _ | exact axv_i32 _ _ | exact clampv_i32 _ _ (by assumption) | exact i32_of (by omega) (by omega)) (by first | assumption | exact sat_i32 _ | exact crs_i32 _ _ _ _ _ | exact axv_i32 _ _ | exact clampv_i32 _ _ (by assumption) | exact i32_of (by omega) (by omega)) (by first | assumption | exact sat_i32 _ | exact crs_i32 _ _ _ _ _ | exact axv_i32 _ _ | exact clampv_i32 _ _ (by assumption) | exact i32_of (by omega) (by omega)) (by first | assumption | exact sat_i32 _ | exact crs_i32 _ _ _ _ _ | exact axv_i32 _ _ | exact clampv_i32 _ _ (by assumption) | exact i32_of (by omega) (by omega))) ?_; conv => whnf) | (refine lcall_ret (fun w' hl => bdotyes_S _ _ _ _ _ _ _ _ _ w') ?_; conv => whnf) | (refine lcall_ret (fun w' hl => rbdot_S _ _ _ _ _ _ _ _ _ w' (by first | assumption | exact sat_i32 _ | exact crs_i32 _ _ _ _ _ | exact axv_i32 _ _ | exact clampv_i32 _ _ (by assumption) | exact i32_of (by omega) (by omega)) (by first | assumption | exact sat_i32 _ | exact crs_i32 _ _ _ _ _ | exact axv_i32 _ _ | exact clampv_i32 _ _ (by assumption) | exact i32_of (by omega) (by omega)) (by first | assumption | exact sat_i32 _ | exact crs_i32 _ _ _ _ _ | exact axv_i32 _ _ | exact clampv_i32 _ _ (by assumption) | exact i32_of (by omega) (by omega)) (by first | assumption | exact sat_i32 _ | exact crs_i32 _ _ _ _ _ | exact axv_i32 _ _ | exact clampv_i32 _ _ (by assumption) | exact i32_of (by omega) (by omega)) (by first | assumption | exact sat_i32 _ | exact crs_i32 _ _ _ _ _ | exact axv_i32 _ _ | exact clampv_i32 _ _ (by assumption) | exact i32_of (by omega) (by omega)) (by first | assumption | exact sat_i32 _ | exact crs_i32 _ _ _ _ _ | exact axv_i32 _ _ | exact clampv_i32 _ _ (by assumption) | exact i32_of (by omega) (by omega)) (by first | assumption | exact sat_i32 _ | exact crs_i32 _ _ _ _ _ | exact axv_i32 _ _ | exact clampv_i32 _ _ (by assumption) | exact i32_of (by omega) (by omega)) (by first | assumption | exact sat_i32 _ | exact crs_i32 _ _ _ _ _ | exact axv_i32 _ _ | exact clampv_i32 _ _ (by assumption) | exact i32_of (by omega) (by omega))) ?_; conv => whnf))
      | (refine lload_id ?_; first
        | (fail)
        | (refine load_old _ (by with_reducible assumption) (by simp; done) ?_; conv => whnf))
      | (refine lixs_id ?_; fail)
      | (refine ex_id ?_; refine ex_z (by (first | (simp only [Int.reduceAdd, Int.reduceSub, Int.reduceMul, Int.reduceNeg, Int.reduceMod, Int.reduceDiv, Int.reduceTMod, Int.reduceTDiv, Int.zero_add, Int.add_zero]; done) | (simp only [Int.reduceAdd, Int.reduceSub, Int.reduceMul, Int.reduceNeg, Int.reduceMod, Int.reduceDiv, Int.reduceTMod, Int.reduceTDiv, Int.zero_add, Int.add_zero]; rfl) | rfl)) ?_; conv => whnf)
      | (refine sh_id ?_; refine sh_z (by omega) (by (first | (simp only [Int.reduceAdd, Int.reduceSub, Int.reduceMul, Int.reduceNeg, Int.reduceMod, Int.reduceDiv, Int.reduceTMod, Int.reduceTDiv, Int.zero_add, Int.add_zero]; done) | (simp only [Int.reduceAdd, Int.reduceSub, Int.reduceMul, Int.reduceNeg, Int.reduceMod, Int.reduceDiv, Int.reduceTMod, Int.reduceTDiv, Int.zero_add, Int.add_zero]; rfl) | rfl)) ?_; conv => whnf)
      | (refine quo_id ?_; first
        | (refine quo_in (by omega) (by (first | (simp only [Int.reduceAdd, Int.reduceSub, Int.reduceMul, Int.reduceNeg, Int.reduceMod, Int.reduceDiv, Int.reduceTMod, Int.reduceTDiv, Int.zero_add, Int.add_zero]; done) | (simp only [Int.reduceAdd, Int.reduceSub, Int.reduceMul, Int.reduceNeg, Int.reduceMod, Int.reduceDiv, Int.reduceTMod, Int.reduceTDiv, Int.zero_add, Int.add_zero]; rfl) | rfl)) (by (dsimp only [inR]; first | decide | omega)) ?_; conv => whnf)
        | (refine quo_t (by omega) (by (dsimp only [inR]; first | decide | omega)) ?_; conv => whnf))
      | (refine rem_id ?_; first
        | (refine rem_in (by omega) (by (first | (simp only [Int.reduceAdd, Int.reduceSub, Int.reduceMul, Int.reduceNeg, Int.reduceMod, Int.reduceDiv, Int.reduceTMod, Int.reduceTDiv, Int.zero_add, Int.add_zero]; done) | (simp only [Int.reduceAdd, Int.reduceSub, Int.reduceMul, Int.reduceNeg, Int.reduceMod, Int.reduceDiv, Int.reduceTMod, Int.reduceTDiv, Int.zero_add, Int.add_zero]; rfl) | rfl)) ?_; conv => whnf)
        | (refine rem_t (by omega) ?_; conv => whnf))
      | (refine app_id ?_; refine app_i (by (first | (simp only [Nat.zero_add, Nat.add_zero, Nat.mul_one, Nat.reduceAdd, Nat.reduceMul, Int.reduceToNat, Int.toNat_natCast, Int.toNat_zero, Int.toNat_one, Nat.zero_mul]; done) | (simp only [Nat.zero_add, Nat.add_zero, Nat.mul_one, Nat.reduceAdd, Nat.reduceMul, Int.reduceToNat, Int.toNat_natCast, Int.toNat_zero, Int.toNat_one, Nat.zero_mul]; rfl) | rfl)) (by (first | (simp only [List.nil_append, List.cons_append, List.append_nil]; done) | (simp only [List.nil_append, List.cons_append, List.append_nil]; rfl) | rfl)) (by omega) (by omega) ?_; intro _ _; conv => whnf)
      | (refine sl_id ?_; fail)
      | (refine eff_id ?_; fail)
      | (refine val_id ?_; fail)
      | (refine x_rnd ?_)
      | (refine x_rnd' ?_)
      | (refine xdrw_id ?_; first | (refine x_drw tab_ok (id := 7) [] [] [0, 1, 2, 3, 4, 5, 6, 7, 8, 9] followsMixed (by kernel_rfl) (by rfl) (by rfl) ?_; conv => whnf) | (refine x_drw tab_ok (id := 13) [] [] [0, 1, 2, 3, 4, 5, 6, 7, 8, 9, 10, 11, 12, 13, 14, 15, 16, 17, 18] followsMixed (by kernel_rfl) (by rfl) (by rfl) ?_; conv => whnf)))
    all_goals (
      refine x_roundA (1) (by omega) (by omega) (by (repeat (first | exact trivial | ((conv => whnf); refine And.intro (by first | rfl | exact congrArg (Value.int _) (by omega)) ?_)))) (by (repeat (first | exact trivial | ((conv => whnf); refine And.intro rfl ?_)))) (by (repeat (first | exact trivial | ((conv => whnf); refine And.intro (by rfl) ?_))))
    )
  · have d0 := damp_facts b1 l1 g q mo hb1 hl1 hg
    have d1 : I32 (damp b1 l1 g q mo) := damp_i32 hm
    unfold I32 at d1
    obtain ⟨d2, d3, d4, d5⟩ := d0
    repeat' (first
      | (fail)
      | (refine run_c tab_ok ?_; conv => whnf)
      | (refine side_id ?_; refine side_i (by first | rfl | exact ⟨rfl, rfl, rfl, rfl⟩ | trivial | (simp [allOne, partsOne, Value.cells, Value.oneCell']; done) | fail) ?_; conv => whnf)
      | (refine ar_id ?_; refine ar_in (by (first | (simp only [Int.reduceAdd, Int.reduceSub, Int.reduceMul, Int.reduceNeg, Int.reduceMod, Int.reduceDiv, Int.reduceTMod, Int.reduceTDiv, Int.zero_add, Int.add_zero]; done) | (simp only [Int.reduceAdd, Int.reduceSub, Int.reduceMul, Int.reduceNeg, Int.reduceMod, Int.reduceDiv, Int.reduceTMod, Int.reduceTDiv, Int.zero_add, Int.add_zero]; rfl) | rfl)) (by (dsimp only [inR]; first | decide | omega)) ?_; conv => whnf)
      | (refine new_i ?_; intro _; conv => whnf)
      | (refine br_id ?_; first
        | (refine br_t (by first | decide | omega | (with_reducible rfl) | (with_reducible exact v3_eq rfl rfl rfl) | (simp only [cellEq, toB]; simp; done) | fail) ?_; conv => whnf)
        | (refine br_f (by first | decide | omega | (with_reducible exact Bool.false_ne_true) | (with_reducible refine not_not_intro ?_; fail) | (simp only [cellEq, toB]; omega) | (simp only [cellEq, toB]; simp; done) | fail) ?_; conv => whnf)
        | ((refine br_any (fun h => ?_) (fun h => ?_) <;> (try simp only [cellEq, toB, Bool.not_eq_true, Bool.not_eq_false] at h) <;> (try (exfalso; first | omega | contradiction | (simp at h; done) | fail); done) <;> conv => whnf)))
      | (refine ix_id ?_; first
        | (refine ix_lit (by first | decide | omega) (by (first | (simp only [Nat.zero_add, Nat.add_zero, Nat.mul_one, Nat.reduceAdd, Nat.reduceMul, Int.reduceToNat, Int.toNat_natCast, Int.toNat_zero, Int.toNat_one, Nat.zero_mul]; done) | (simp only [Nat.zero_add, Nat.add_zero, Nat.mul_one, Nat.reduceAdd, Nat.reduceMul, Int.reduceToNat, Int.toNat_natCast, Int.toNat_zero, Int.toNat_one, Nat.zero_mul]; rfl) | rfl)) (by rfl) ?_; conv => whnf)
        | (refine ix_sym (by omega) ?_; conv => whnf))
      | (refine lcall_id ?_; first | (refine lcall_ret (fun w' hl => awake23_S w') ?_; conv => whnf) | (refine lcall_ret (fun w' hl => bdotno_S _ _ _ _ _ _ _ _ _ w' (by first | assumption | exact sat_i32 _ | exact crs_i32 _ _ _ _ _ | exact axv_i32 _ _ | exact clampv_i32 _ _ (by assumption) | exact i32_of (by omega) (by omega)) (by first | assumption | exact sat_i32 _ | exact crs_i32 _ _ _ _ _ | exact axv_i32 _ _ | exact clampv_i32 _ _ (by assumption) | exact i32_of (by omega) (by omega)) (by first | assumption | exact sat_i32 _ | exact crs_i32 _ _ _ _ _ | exact axv_i32 _ _ | exact clampv_i32 _ _ (by assumption) | exact i32_of (by omega) (by omega)) (by first | assumption | exact sat_i32 _ | exact crs_i32 _ _ _ _ _ | exact axv_i32 _ _ | exact clampv_i32 _ _ (by assumption) | exact i32_of (by omega) (by omega)) (by first | assumption | exact sat_i32 _ | exact crs_i32 _ _ _ _ _ | exact axv_i32 _ _ | exact clampv_i32 _ _ (by assumption) | exact i32_of (by omega) (by omega)) (by first | assumption | exact sat_i32 _ | exact crs_i32 _ _ _ _ _ | exact axv_i32 _ _ | exact clampv_i32 _ _ (by assumption) | exact i32_of (by omega) (by omega)) (by first | assumption | exact sat_i32 _ | exact crs_i32 _ _ _ _ _ | exact axv_i32 _ _ | exact clampv_i32 _ _ (by assumption) | exact i32_of (by omega) (by omega)) (by first | assumption | exact sat_i32 _ | exact crs_i32 _ _ _ _ _ | exact axv_i32 _ _ | exact clampv_i32 _ _ (by assumption) | exact i32_of (by omega) (by omega))) ?_; conv => whnf) | (refine lcall_ret (fun w' hl => bdotyes_S _ _ _ _ _ _ _ _ _ w') ?_; conv => whnf) | (refine lcall_ret (fun w' hl => rbdot_S _ _ _ _ _ _ _ _ _ w' (by first | assumption | exact sat_i32 _ | exact crs_i32 _ _ _ _ _ | exact axv_i32 _ _ | exact clampv_i32 _ _ (by assumption) | exact i32_of (by omega) (by omega)) (by first | assumption | exact sat_i32 _ | exact crs_i32 _ _ _ _ _ | exact axv_i32 _ _ | exact clampv_i32 _ _ (by assumption) | exact i32_of (by omega) (by omega)) (by first | assumption | exact sat_i32 _ | exact crs_i32 _ _ _ _ _ | exact axv_i32 _ _ | exact clampv_i32 _ _ (by assumption) | exact i32_of (by omega) (by omega)) (by first | assumption | exact sat_i32 _ | exact crs_i32 _ _ _ _ _ | exact axv_i32 _ _ | exact clampv_i32 _ _ (by assumption) | exact i32_of (by omega) (by omega)) (by first | assumption | exact sat_i32 _ | exact crs_i32 _ _ _ _ _ | exact axv_i32 _ _ | exact clampv_i32 _ _ (by assumption) | exact i32_of (by omega) (by omega)) (by first | assumption | exact sat_i32 _ | exact crs_i32 _ _ _ _ _ | exact axv_i32 _ _ | exact clampv_i32 _ _ (by assumption) | exact i32_of (by omega) (by omega)) (by first | assumption | exact sat_i32 _ | exact crs_i32 _ _ _ _ _ | exact axv_i32 _ _ | exact clampv_i32 _ _ (by assumption) | exact i32_of (by omega) (by omega)) (by first | assumption | exact sat_i32 _ | exact crs_i32 _ _ _ _ _ | exact axv_i32 _ _ | exact clampv_i32 _ _ (by assumption) | exact i32_of (by omega) (by omega))) ?_; conv => whnf))
      | (refine lload_id ?_; first
        | (fail)
        | (refine load_old _ (by with_reducible assumption) (by simp; done) ?_; conv => whnf))
      | (refine lixs_id ?_; fail)
      | (refine ex_id ?_; refine ex_z (by (first | (simp only [Int.reduceAdd, Int.reduceSub, Int.reduceMul, Int.reduceNeg, Int.reduceMod, Int.reduceDiv, Int.reduceTMod, Int.reduceTDiv, Int.zero_add, Int.add_zero]; done) | (simp only [Int.reduceAdd, Int.reduceSub, Int.reduceMul, Int.reduceNeg, Int.reduceMod, Int.reduceDiv, Int.reduceTMod, Int.reduceTDiv, Int.zero_add, Int.add_zero]; rfl) | rfl)) ?_; conv => whnf)
      | (refine sh_id ?_; refine sh_z (by omega) (by (first | (simp only [Int.reduceAdd, Int.reduceSub, Int.reduceMul, Int.reduceNeg, Int.reduceMod, Int.reduceDiv, Int.reduceTMod, Int.reduceTDiv, Int.zero_add, Int.add_zero]; done) | (simp only [Int.reduceAdd, Int.reduceSub, Int.reduceMul, Int.reduceNeg, Int.reduceMod, Int.reduceDiv, Int.reduceTMod, Int.reduceTDiv, Int.zero_add, Int.add_zero]; rfl) | rfl)) ?_; conv => whnf)
      | (refine quo_id ?_; first
        | (refine quo_in (by omega) (by (first | (simp only [Int.reduceAdd, Int.reduceSub, Int.reduceMul, Int.reduceNeg, Int.reduceMod, Int.reduceDiv, Int.reduceTMod, Int.reduceTDiv, Int.zero_add, Int.add_zero]; done) | (simp only [Int.reduceAdd, Int.reduceSub, Int.reduceMul, Int.reduceNeg, Int.reduceMod, Int.reduceDiv, Int.reduceTMod, Int.reduceTDiv, Int.zero_add, Int.add_zero]; rfl) | rfl)) (by (dsimp only [inR]; first | decide | omega)) ?_; conv => whnf)
        | (refine quo_t (by omega) (by (dsimp only [inR]; first | decide | omega)) ?_; conv => whnf))
      | (refine rem_id ?_; first
        | (refine rem_in (by omega) (by (first | (simp only [Int.reduceAdd, Int.reduceSub, Int.reduceMul, Int.reduceNeg, Int.reduceMod, Int.reduceDiv, Int.reduceTMod, Int.reduceTDiv, Int.zero_add, Int.add_zero]; done) | (simp only [Int.reduceAdd, Int.reduceSub, Int.reduceMul, Int.reduceNeg, Int.reduceMod, Int.reduceDiv, Int.reduceTMod, Int.reduceTDiv, Int.zero_add, Int.add_zero]; rfl) | rfl)) ?_; conv => whnf)
        | (refine rem_t (by omega) ?_; conv => whnf))
      | (refine app_id ?_; refine app_i (by (first | (simp only [Nat.zero_add, Nat.add_zero, Nat.mul_one, Nat.reduceAdd, Nat.reduceMul, Int.reduceToNat, Int.toNat_natCast, Int.toNat_zero, Int.toNat_one, Nat.zero_mul]; done) | (simp only [Nat.zero_add, Nat.add_zero, Nat.mul_one, Nat.reduceAdd, Nat.reduceMul, Int.reduceToNat, Int.toNat_natCast, Int.toNat_zero, Int.toNat_one, Nat.zero_mul]; rfl) | rfl)) (by (first | (simp only [List.nil_append, List.cons_append, List.append_nil]; done) | (simp only [List.nil_append, List.cons_append, List.append_nil]; rfl) | rfl)) (by omega) (by omega) ?_; intro _ _; conv => whnf)
      | (refine sl_id ?_; fail)
      | (refine eff_id ?_; fail)
      | (refine val_id ?_; fail)
      | (refine x_rnd ?_)
      | (refine x_rnd' ?_)
      | (refine xdrw_id ?_; first | (refine x_drw tab_ok (id := 7) [] [] [0, 1, 2, 3, 4, 5, 6, 7, 8, 9] followsMixed (by kernel_rfl) (by rfl) (by rfl) ?_; conv => whnf) | (refine x_drw tab_ok (id := 13) [] [] [0, 1, 2, 3, 4, 5, 6, 7, 8, 9, 10, 11, 12, 13, 14, 15, 16, 17, 18] followsMixed (by kernel_rfl) (by rfl) (by rfl) ?_; conv => whnf)))
    all_goals (
      refine x_roundA (2) (by omega) (by omega) (by (repeat (first | exact trivial | ((conv => whnf); refine And.intro (by first | rfl | exact congrArg (Value.int _) (by omega)) ?_)))) (by (repeat (first | exact trivial | ((conv => whnf); refine And.intro rfl ?_)))) (by (repeat (first | exact trivial | ((conv => whnf); refine And.intro (by rfl) ?_))))
    )
  · have d0 := damp_facts b2 l2 g q mo hb2 hl2 hg
    have d1 : I32 (damp b2 l2 g q mo) := damp_i32 hm
    unfold I32 at d1
    obtain ⟨d2, d3, d4, d5⟩ := d0
    repeat' (first
      | (fail)
      | (refine run_c tab_ok ?_; conv => whnf)
      | (refine side_id ?_; refine side_i (by first | rfl | exact ⟨rfl, rfl, rfl, rfl⟩ | trivial | (simp [allOne, partsOne, Value.cells, Value.oneCell']; done) | fail) ?_; conv => whnf)
      | (refine ar_id ?_; refine ar_in (by (first | (simp only [Int.reduceAdd, Int.reduceSub, Int.reduceMul, Int.reduceNeg, Int.reduceMod, Int.reduceDiv, Int.reduceTMod, Int.reduceTDiv, Int.zero_add, Int.add_zero]; done) | (simp only [Int.reduceAdd, Int.reduceSub, Int.reduceMul, Int.reduceNeg, Int.reduceMod, Int.reduceDiv, Int.reduceTMod, Int.reduceTDiv, Int.zero_add, Int.add_zero]; rfl) | rfl)) (by (dsimp only [inR]; first | decide | omega)) ?_; conv => whnf)
      | (refine new_i ?_; intro _; conv => whnf)
      | (refine br_id ?_; first
        | (refine br_t (by first | decide | omega | (with_reducible rfl) | (with_reducible exact v3_eq rfl rfl rfl) | (simp only [cellEq, toB]; simp; done) | fail) ?_; conv => whnf)
        | (refine br_f (by first | decide | omega | (with_reducible exact Bool.false_ne_true) | (with_reducible refine not_not_intro ?_; fail) | (simp only [cellEq, toB]; omega) | (simp only [cellEq, toB]; simp; done) | fail) ?_; conv => whnf)
        | ((refine br_any (fun h => ?_) (fun h => ?_) <;> (try simp only [cellEq, toB, Bool.not_eq_true, Bool.not_eq_false] at h) <;> (try (exfalso; first | omega | contradiction | (simp at h; done) | fail); done) <;> conv => whnf)))
      | (refine ix_id ?_; first
        | (refine ix_lit (by first | decide | omega) (by (first | (simp only [Nat.zero_add, Nat.add_zero, Nat.mul_one, Nat.reduceAdd, Nat.reduceMul, Int.reduceToNat, Int.toNat_natCast, Int.toNat_zero, Int.toNat_one, Nat.zero_mul]; done) | (simp only [Nat.zero_add, Nat.add_zero, Nat.mul_one, Nat.reduceAdd, Nat.reduceMul, Int.reduceToNat, Int.toNat_natCast, Int.toNat_zero, Int.toNat_one, Nat.zero_mul]; rfl) | rfl)) (by rfl) ?_; conv => whnf)
        | (refine ix_sym (by omega) ?_; conv => whnf))
      | (refine lcall_id ?_; first | (refine lcall_ret (fun w' hl => awake23_S w') ?_; conv => whnf) | (refine lcall_ret (fun w' hl => bdotno_S _ _ _ _ _ _ _ _ _ w' (by first | assumption | exact sat_i32 _ | exact crs_i32 _ _ _ _ _ | exact axv_i32 _ _ | exact clampv_i32 _ _ (by assumption) | exact i32_of (by omega) (by omega)) (by first | assumption | exact sat_i32 _ | exact crs_i32 _ _ _ _ _ | exact axv_i32 _ _ | exact clampv_i32 _ _ (by assumption) | exact i32_of (by omega) (by omega)) (by first | assumption | exact sat_i32 _ | exact crs_i32 _ _ _ _ _ | exact axv_i32 _ _ | exact clampv_i32 _ _ (by assumption) | exact i32_of (by omega) (by omega)) (by first | assumption | exact sat_i32 _ | exact crs_i32 _ _ _ _ _ | exact axv_i32 _ _ | exact clampv_i32 _ _ (by assumption) | exact i32_of (by omega) (by omega)) (by first | assumption | exact sat_i32 _ | exact crs_i32 _ _ _ _ _ | exact axv_i32 _ _ | exact clampv_i32 _ _ (by assumption) | exact i32_of (by omega) (by omega)) (by first | assumption | exact sat_i32 _ | exact crs_i32 _ _ _ _ _ | exact axv_i32 _ _ | exact clampv_i32 _ _ (by assumption) | exact i32_of (by omega) (by omega)) (by first | assumption | exact sat_i32 _ | exact crs_i32 _ _ _ _ _ | exact axv_i32 _ _ | exact clampv_i32 _ _ (by assumption) | exact i32_of (by omega) (by omega)) (by first | assumption | exact sat_i32 _ | exact crs_i32 _ _ _ _ _ | exact axv_i32 _ _ | exact clampv_i32 _ _ (by assumption) | exact i32_of (by omega) (by omega))) ?_; conv => whnf) | (refine lcall_ret (fun w' hl => bdotyes_S _ _ _ _ _ _ _ _ _ w') ?_; conv => whnf) | (refine lcall_ret (fun w' hl => rbdot_S _ _ _ _ _ _ _ _ _ w' (by first | assumption | exact sat_i32 _ | exact crs_i32 _ _ _ _ _ | exact axv_i32 _ _ | exact clampv_i32 _ _ (by assumption) | exact i32_of (by omega) (by omega)) (by first | assumption | exact sat_i32 _ | exact crs_i32 _ _ _ _ _ | exact axv_i32 _ _ | exact clampv_i32 _ _ (by assumption) | exact i32_of (by omega) (by omega)) (by first | assumption | exact sat_i32 _ | exact crs_i32 _ _ _ _ _ | exact axv_i32 _ _ | exact clampv_i32 _ _ (by assumption) | exact i32_of (by omega) (by omega)) (by first | assumption | exact sat_i32 _ | exact crs_i32 _ _ _ _ _ | exact axv_i32 _ _ | exact clampv_i32 _ _ (by assumption) | exact i32_of (by omega) (by omega)) (by first | assumption | exact sat_i32 _ | exact crs_i32 _ _ _ _ _ | exact axv_i32 _ _ | exact clampv_i32 _ _ (by assumption) | exact i32_of (by omega) (by omega)) (by first | assumption | exact sat_i32 _ | exact crs_i32 _ _ _ _ _ | exact axv_i32 _ _ | exact clampv_i32 _ _ (by assumption) | exact i32_of (by omega) (by omega)) (by first | assumption | exact sat_i32 _ | exact crs_i32 _ _ _ _ _ | exact axv_i32 _ _ | exact clampv_i32 _ _ (by assumption) | exact i32_of (by omega) (by omega)) (by first | assumption | exact sat_i32 _ | exact crs_i32 _ _ _ _ _ | exact axv_i32 _ _ | exact clampv_i32 _ _ (by assumption) | exact i32_of (by omega) (by omega))) ?_; conv => whnf))
      | (refine lload_id ?_; first
        | (fail)
        | (refine load_old _ (by with_reducible assumption) (by simp; done) ?_; conv => whnf))
      | (refine lixs_id ?_; fail)
      | (refine ex_id ?_; refine ex_z (by (first | (simp only [Int.reduceAdd, Int.reduceSub, Int.reduceMul, Int.reduceNeg, Int.reduceMod, Int.reduceDiv, Int.reduceTMod, Int.reduceTDiv, Int.zero_add, Int.add_zero]; done) | (simp only [Int.reduceAdd, Int.reduceSub, Int.reduceMul, Int.reduceNeg, Int.reduceMod, Int.reduceDiv, Int.reduceTMod, Int.reduceTDiv, Int.zero_add, Int.add_zero]; rfl) | rfl)) ?_; conv => whnf)
      | (refine sh_id ?_; refine sh_z (by omega) (by (first | (simp only [Int.reduceAdd, Int.reduceSub, Int.reduceMul, Int.reduceNeg, Int.reduceMod, Int.reduceDiv, Int.reduceTMod, Int.reduceTDiv, Int.zero_add, Int.add_zero]; done) | (simp only [Int.reduceAdd, Int.reduceSub, Int.reduceMul, Int.reduceNeg, Int.reduceMod, Int.reduceDiv, Int.reduceTMod, Int.reduceTDiv, Int.zero_add, Int.add_zero]; rfl) | rfl)) ?_; conv => whnf)
      | (refine quo_id ?_; first
        | (refine quo_in (by omega) (by (first | (simp only [Int.reduceAdd, Int.reduceSub, Int.reduceMul, Int.reduceNeg, Int.reduceMod, Int.reduceDiv, Int.reduceTMod, Int.reduceTDiv, Int.zero_add, Int.add_zero]; done) | (simp only [Int.reduceAdd, Int.reduceSub, Int.reduceMul, Int.reduceNeg, Int.reduceMod, Int.reduceDiv, Int.reduceTMod, Int.reduceTDiv, Int.zero_add, Int.add_zero]; rfl) | rfl)) (by (dsimp only [inR]; first | decide | omega)) ?_; conv => whnf)
        | (refine quo_t (by omega) (by (dsimp only [inR]; first | decide | omega)) ?_; conv => whnf))
      | (refine rem_id ?_; first
        | (refine rem_in (by omega) (by (first | (simp only [Int.reduceAdd, Int.reduceSub, Int.reduceMul, Int.reduceNeg, Int.reduceMod, Int.reduceDiv, Int.reduceTMod, Int.reduceTDiv, Int.zero_add, Int.add_zero]; done) | (simp only [Int.reduceAdd, Int.reduceSub, Int.reduceMul, Int.reduceNeg, Int.reduceMod, Int.reduceDiv, Int.reduceTMod, Int.reduceTDiv, Int.zero_add, Int.add_zero]; rfl) | rfl)) ?_; conv => whnf)
        | (refine rem_t (by omega) ?_; conv => whnf))
      | (refine app_id ?_; refine app_i (by (first | (simp only [Nat.zero_add, Nat.add_zero, Nat.mul_one, Nat.reduceAdd, Nat.reduceMul, Int.reduceToNat, Int.toNat_natCast, Int.toNat_zero, Int.toNat_one, Nat.zero_mul]; done) | (simp only [Nat.zero_add, Nat.add_zero, Nat.mul_one, Nat.reduceAdd, Nat.reduceMul, Int.reduceToNat, Int.toNat_natCast, Int.toNat_zero, Int.toNat_one, Nat.zero_mul]; rfl) | rfl)) (by (first | (simp only [List.nil_append, List.cons_append, List.append_nil]; done) | (simp only [List.nil_append, List.cons_append, List.append_nil]; rfl) | rfl)) (by omega) (by omega) ?_; intro _ _; conv => whnf)
      | (refine sl_id ?_; fail)
      | (refine eff_id ?_; fail)
      | (refine val_id ?_; fail)
      | (refine x_rnd ?_)
      | (refine x_rnd' ?_)
      | (refine xdrw_id ?_; first | (refine x_drw tab_ok (id := 7) [] [] [0, 1, 2, 3, 4, 5, 6, 7, 8, 9] followsMixed (by kernel_rfl) (by rfl) (by rfl) ?_; conv => whnf) | (refine x_drw tab_ok (id := 13) [] [] [0, 1, 2, 3, 4, 5, 6, 7, 8, 9, 10, 11, 12, 13, 14, 15, 16, 17, 18] followsMixed (by kernel_rfl) (by rfl) (by rfl) ?_; conv => whnf)))
    all_goals (
      refine x_roundA (3) (by omega) (by omega) (by (repeat (first | exact trivial | ((conv => whnf); refine And.intro (by first | rfl | exact congrArg (Value.int _) (by omega)) ?_)))) (by (repeat (first | exact trivial | ((conv => whnf); refine And.intro rfl ?_)))) (by (repeat (first | exact trivial | ((conv => whnf); refine And.intro (by rfl) ?_))))
    )
  · skip
    repeat' (first
      | (fail)
      | (refine run_c tab_ok ?_; conv => whnf)
      | (refine side_id ?_; refine side_i (by first | rfl | exact ⟨rfl, rfl, rfl, rfl⟩ | trivial | (simp [allOne, partsOne, Value.cells, Value.oneCell']; done) | fail) ?_; conv => whnf)
      | (refine ar_id ?_; refine ar_in (by (first | (simp only [Int.reduceAdd, Int.reduceSub, Int.reduceMul, Int.reduceNeg, Int.reduceMod, Int.reduceDiv, Int.reduceTMod, Int.reduceTDiv, Int.zero_add, Int.add_zero]; done) | (simp only [Int.reduceAdd, Int.reduceSub, Int.reduceMul, Int.reduceNeg, Int.reduceMod, Int.reduceDiv, Int.reduceTMod, Int.reduceTDiv, Int.zero_add, Int.add_zero]; rfl) | rfl)) (by (dsimp only [inR]; first | decide | omega)) ?_; conv => whnf)
      | (refine new_i ?_; intro _; conv => whnf)
      | (refine br_id ?_; first
        | (refine br_t (by first | decide | omega | (with_reducible rfl) | (with_reducible exact v3_eq rfl rfl rfl) | (simp only [cellEq, toB]; simp; done) | fail) ?_; conv => whnf)
        | (refine br_f (by first | decide | omega | (with_reducible exact Bool.false_ne_true) | (with_reducible refine not_not_intro ?_; fail) | (simp only [cellEq, toB]; omega) | (simp only [cellEq, toB]; simp; done) | fail) ?_; conv => whnf)
        | ((refine br_any (fun h => ?_) (fun h => ?_) <;> (try simp only [cellEq, toB, Bool.not_eq_true, Bool.not_eq_false] at h) <;> (try (exfalso; first | omega | contradiction | (simp at h; done) | fail); done) <;> conv => whnf)))
      | (refine ix_id ?_; first
        | (refine ix_lit (by first | decide | omega) (by (first | (simp only [Nat.zero_add, Nat.add_zero, Nat.mul_one, Nat.reduceAdd, Nat.reduceMul, Int.reduceToNat, Int.toNat_natCast, Int.toNat_zero, Int.toNat_one, Nat.zero_mul]; done) | (simp only [Nat.zero_add, Nat.add_zero, Nat.mul_one, Nat.reduceAdd, Nat.reduceMul, Int.reduceToNat, Int.toNat_natCast, Int.toNat_zero, Int.toNat_one, Nat.zero_mul]; rfl) | rfl)) (by rfl) ?_; conv => whnf)
        | (refine ix_sym (by omega) ?_; conv => whnf))
      | (refine lcall_id ?_; first | (refine lcall_ret (fun w' hl => awake23_S w') ?_; conv => whnf) | (refine lcall_ret (fun w' hl => bdotno_S _ _ _ _ _ _ _ _ _ w' (by first | assumption | exact sat_i32 _ | exact crs_i32 _ _ _ _ _ | exact axv_i32 _ _ | exact clampv_i32 _ _ (by assumption) | exact i32_of (by omega) (by omega)) (by first | assumption | exact sat_i32 _ | exact crs_i32 _ _ _ _ _ | exact axv_i32 _ _ | exact clampv_i32 _ _ (by assumption) | exact i32_of (by omega) (by omega)) (by first | assumption | exact sat_i32 _ | exact crs_i32 _ _ _ _ _ | exact axv_i32 _ _ | exact clampv_i32 _ _ (by assumption) | exact i32_of (by omega) (by omega)) (by first | assumption | exact sat_i32 _ | exact crs_i32 _ _ _ _ _ | exact axv_i32 _ _ | exact clampv_i32 _ _ (by assumption) | exact i32_of (by omega) (by omega)) (by first | assumption | exact sat_i32 _ | exact crs_i32 _ _ _ _ _ | exact axv_i32 _ _ | exact clampv_i32 _ _ (by assumption) | exact i32_of (by omega) (by omega)) (by first | assumption | exact sat_i32 _ | exact crs_i32 _ _ _ _ _ | exact axv_i32 _ _ | exact clampv_i32 _ _ (by assumption) | exact i32_of (by omega) (by omega)) (by first | assumption | exact sat_i32 _ | exact crs_i32 _ _ _ _ _ | exact axv_i32 _ _ | exact clampv_i32 _ _ (by assumption) | exact i32_of (by omega) (by omega)) (by first | assumption | exact sat_i32 _ | exact crs_i32 _ _ _ _ _ | exact axv_i32 _ _ | exact clampv_i32 _ _ (by assumption) | exact i32_of (by omega) (by omega))) ?_; conv => whnf) | (refine lcall_ret (fun w' hl => bdotyes_S _ _ _ _ _ _ _ _ _ w') ?_; conv => whnf) | (refine lcall_ret (fun w' hl => rbdot_S _ _ _ _ _ _ _ _ _ w' (by first | assumption | exact sat_i32 _ | exact crs_i32 _ _ _ _ _ | exact axv_i32 _ _ | exact clampv_i32 _ _ (by assumption) | exact i32_of (by omega) (by omega)) (by first | assumption | exact sat_i32 _ | exact crs_i32 _ _ _ _ _ | exact axv_i32 _ _ | exact clampv_i32 _ _ (by assumption) | exact i32_of (by omega) (by omega)) (by first | assumption | exact sat_i32 _ | exact crs_i32 _ _ _ _ _ | exact axv_i32 _ _ | exact clampv_i32 _ _ (by assumption) | exact i32_of (by omega) (by omega)) (by first | assumption | exact sat_i32 _ | exact crs_i32 _ _ _ _ _ | exact axv_i32 _ _ | exact clampv_i32 _ _ (by assumption) | exact i32_of (by omega) (by omega)) (by first | assumption | exact sat_i32 _ | exact crs_i32 _ _ _ _ _ | exact axv_i32 _ _ | exact clampv_i32 _ _ (by assumption) | exact i32_of (by omega) (by omega)) (by first | assumption | exact sat_i32 _ | exact crs_i32 _ _ _ _ _ | exact axv_i32 _ _ | exact clampv_i32 _ _ (by assumption) | exact i32_of (by omega) (by omega)) (by first | assumption | exact sat_i32 _ | exact crs_i32 _ _ _ _ _ | exact axv_i32 _ _ | exact clampv_i32 _ _ (by assumption) | exact i32_of (by omega) (by omega)) (by first | assumption | exact sat_i32 _ | exact crs_i32 _ _ _ _ _ | exact axv_i32 _ _ | exact clampv_i32 _ _ (by assumption) | exact i32_of (by omega) (by omega))) ?_; conv => whnf))
      | (refine lload_id ?_; first
        | (fail)
        | (refine load_old _ (by with_reducible assumption) (by simp; done) ?_; conv => whnf))
      | (refine lixs_id ?_; fail)
      | (refine ex_id ?_; refine ex_z (by (first | (simp only [Int.reduceAdd, Int.reduceSub, Int.reduceMul, Int.reduceNeg, Int.reduceMod, Int.reduceDiv, Int.reduceTMod, Int.reduceTDiv, Int.zero_add, Int.add_zero]; done) | (simp only [Int.reduceAdd, Int.reduceSub, Int.reduceMul, Int.reduceNeg, Int.reduceMod, Int.reduceDiv, Int.reduceTMod, Int.reduceTDiv, Int.zero_add, Int.add_zero]; rfl) | rfl)) ?_; conv => whnf)
      | (refine sh_id ?_; refine sh_z (by omega) (by (first | (simp only [Int.reduceAdd, Int.reduceSub, Int.reduceMul, Int.reduceNeg, Int.reduceMod, Int.reduceDiv, Int.reduceTMod, Int.reduceTDiv, Int.zero_add, Int.add_zero]; done) | (simp only [Int.reduceAdd, Int.reduceSub, Int.reduceMul, Int.reduceNeg, Int.reduceMod, Int.reduceDiv, Int.reduceTMod, Int.reduceTDiv, Int.zero_add, Int.add_zero]; rfl) | rfl)) ?_; conv => whnf)
      | (refine quo_id ?_; first
        | (refine quo_in (by omega) (by (first | (simp only [Int.reduceAdd, Int.reduceSub, Int.reduceMul, Int.reduceNeg, Int.reduceMod, Int.reduceDiv, Int.reduceTMod, Int.reduceTDiv, Int.zero_add, Int.add_zero]; done) | (simp only [Int.reduceAdd, Int.reduceSub, Int.reduceMul, Int.reduceNeg, Int.reduceMod, Int.reduceDiv, Int.reduceTMod, Int.reduceTDiv, Int.zero_add, Int.add_zero]; rfl) | rfl)) (by (dsimp only [inR]; first | decide | omega)) ?_; conv => whnf)
        | (refine quo_t (by omega) (by (dsimp only [inR]; first | decide | omega)) ?_; conv => whnf))
      | (refine rem_id ?_; first
        | (refine rem_in (by omega) (by (first | (simp only [Int.reduceAdd, Int.reduceSub, Int.reduceMul, Int.reduceNeg, Int.reduceMod, Int.reduceDiv, Int.reduceTMod, Int.reduceTDiv, Int.zero_add, Int.add_zero]; done) | (simp only [Int.reduceAdd, Int.reduceSub, Int.reduceMul, Int.reduceNeg, Int.reduceMod, Int.reduceDiv, Int.reduceTMod, Int.reduceTDiv, Int.zero_add, Int.add_zero]; rfl) | rfl)) ?_; conv => whnf)
        | (refine rem_t (by omega) ?_; conv => whnf))
      | (refine app_id ?_; refine app_i (by (first | (simp only [Nat.zero_add, Nat.add_zero, Nat.mul_one, Nat.reduceAdd, Nat.reduceMul, Int.reduceToNat, Int.toNat_natCast, Int.toNat_zero, Int.toNat_one, Nat.zero_mul]; done) | (simp only [Nat.zero_add, Nat.add_zero, Nat.mul_one, Nat.reduceAdd, Nat.reduceMul, Int.reduceToNat, Int.toNat_natCast, Int.toNat_zero, Int.toNat_one, Nat.zero_mul]; rfl) | rfl)) (by (first | (simp only [List.nil_append, List.cons_append, List.append_nil]; done) | (simp only [List.nil_append, List.cons_append, List.append_nil]; rfl) | rfl)) (by omega) (by omega) ?_; intro _ _; conv => whnf)
      | (refine sl_id ?_; fail)
      | (refine eff_id ?_; fail)
      | (refine val_id ?_; fail)
      | (refine x_rnd ?_)
      | (refine x_rnd' ?_)
      | (refine xdrw_id ?_; first | (refine x_drw tab_ok (id := 7) [] [] [0, 1, 2, 3, 4, 5, 6, 7, 8, 9] followsMixed (by kernel_rfl) (by rfl) (by rfl) ?_; conv => whnf) | (refine x_drw tab_ok (id := 13) [] [] [0, 1, 2, 3, 4, 5, 6, 7, 8, 9, 10, 11, 12, 13, 14, 15, 16, 17, 18] followsMixed (by kernel_rfl) (by rfl) (by rfl) ?_; conv => whnf)))
    all_goals (
      (refine fin_ret ?_)
      first | rfl | exact congrArg Value.bool (@decide_eq_true _ (_) (v3_eq rfl rfl rfl)))
theorem steerDamps_walk (b l : List Value) (g q m : Int) (w : World) (h : skB [.i .i32, .i .i32, .i .i32] b = true) (hw : wfC b) (h' : skB [.i .i32, .i .i32, .i .i32] l = true) (hw' : wfC l) (hg : inR .i32 g) (hq : inR .i64 q) (hm : inR .i32 m) :
    Calls Try.prog 3 #[.agg b.toArray, .agg l.toArray, .int .i32 g, .int .i64 q, .int .i32 m] w fun e w' => e = .returned (.bool true) ∧ Below w.heap.size w w' := by
  obtain ⟨a, b, c, rfl, ha, hb, hc⟩ := v3_of h hw
  obtain ⟨a', b', c', rfl, ha', hb', hc'⟩ := v3_of h' hw'
  exact (steerDamps_ret _ _ _ _ _ _ g q m w ha hb hc ha' hb' hc' hg hq hm).below
end Go.Proofs.Ytfnailajblfckaa
