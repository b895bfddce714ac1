/- The contracts of steer, by reckoning: Axis, Bdot, Sun; the references. -/
import Derived.Test.YtfnailajblfckaaQa
namespace Go.Proofs.Ytfnailajblfckaa
set_option linter.unusedSimpArgs false
set_option linter.unusedVariables false
set_option linter.unnecessarySimpa false
set_option maxRecDepth 100000
open Go.RowKit

def axv (i j : Int) : Int := if i = j then 1000 else 0
theorem axv_i32 (i j : Int) : I32 (axv i j) := by unfold I32 axv; split <;> omega
theorem axis_S (i : Int) (w : World) : RetS Try.prog 25 [i64 i] w (v3 (axv i 0) (axv i 1) (axv i 2)) := by
  rcases (show i = 0 ∨ i = 1 ∨ i = 2 ∨ (i < 0 ∨ 3 ≤ i) by omega) with rfl | rfl | rfl | h0
  · skip
    refine ret_x tab_ok Try.func25 rfl Try.ntmps25 (by rfl) ?_; simp only [argX, Nat.reduceAdd, Nat.zero_add]; conv => whnf
    repeat' (first
      | (fail)
      | (refine run_c tab_ok ?_; conv => whnf)
      | (refine side_id ?_; refine side_i (by first | rfl | exact ⟨rfl, rfl, rfl, rfl⟩ | trivial | (simp [allOne, partsOne, Value.cells, Value.oneCell']; done) | fail) ?_; conv => whnf)
      | (refine ar_id ?_; refine ar_in (by (first | (simp only [Int.reduceAdd, Int.reduceSub, Int.reduceMul, Int.reduceNeg, Int.reduceMod, Int.reduceDiv, Int.reduceTMod, Int.reduceTDiv, Int.zero_add, Int.add_zero]; done) | (simp only [Int.reduceAdd, Int.reduceSub, Int.reduceMul, Int.reduceNeg, Int.reduceMod, Int.reduceDiv, Int.reduceTMod, Int.reduceTDiv, Int.zero_add, Int.add_zero]; rfl) | rfl)) (by (dsimp only [inR]; first | decide | omega)) ?_; conv => whnf)
      | (refine new_i ?_; intro _; conv => whnf)
      | (refine br_id ?_; first
        | (refine br_t (by first | decide | omega | (with_reducible rfl) | fail | (simp only [cellEq, toB]; omega) | (simp only [cellEq, toB]; simp; done) | fail) ?_; conv => whnf)
        | (refine br_f (by first | decide | omega | (with_reducible exact Bool.false_ne_true) | (with_reducible refine not_not_intro ?_; fail) | (simp only [cellEq, toB]; omega) | (simp only [cellEq, toB]; simp; done) | fail) ?_; conv => whnf)
        | ((refine br_any (fun h => ?_) (fun h => ?_) <;> (try simp only [cellEq, toB, Bool.not_eq_true, Bool.not_eq_false] at h) <;> (try (exfalso; first | omega | contradiction | (simp at h; done) | fail); done) <;> conv => whnf)))
      | (refine ix_id ?_; first
        | (refine ix_lit (by first | decide | omega) (by (first | (simp only [Nat.zero_add, Nat.add_zero, Nat.mul_one, Nat.reduceAdd, Nat.reduceMul, Int.reduceToNat, Int.toNat_natCast, Int.toNat_zero, Int.toNat_one, Nat.zero_mul]; done) | (simp only [Nat.zero_add, Nat.add_zero, Nat.mul_one, Nat.reduceAdd, Nat.reduceMul, Int.reduceToNat, Int.toNat_natCast, Int.toNat_zero, Int.toNat_one, Nat.zero_mul]; rfl) | rfl)) (by rfl) ?_; conv => whnf)
        | (refine ix_sym (by omega) ?_; conv => whnf))
      | (refine lcall_id ?_; fail)
      | (refine lload_id ?_; first
        | (fail)
        | (refine load_old _ (by with_reducible assumption) (by simp; done) ?_; conv => whnf))
      | (refine lixs_id ?_; fail)
      | (refine ex_id ?_; refine ex_z (by (first | (simp only [Int.reduceAdd, Int.reduceSub, Int.reduceMul, Int.reduceNeg, Int.reduceMod, Int.reduceDiv, Int.reduceTMod, Int.reduceTDiv, Int.zero_add, Int.add_zero]; done) | (simp only [Int.reduceAdd, Int.reduceSub, Int.reduceMul, Int.reduceNeg, Int.reduceMod, Int.reduceDiv, Int.reduceTMod, Int.reduceTDiv, Int.zero_add, Int.add_zero]; rfl) | rfl)) ?_; conv => whnf)
      | (refine sh_id ?_; refine sh_z (by omega) (by (first | (simp only [Int.reduceAdd, Int.reduceSub, Int.reduceMul, Int.reduceNeg, Int.reduceMod, Int.reduceDiv, Int.reduceTMod, Int.reduceTDiv, Int.zero_add, Int.add_zero]; done) | (simp only [Int.reduceAdd, Int.reduceSub, Int.reduceMul, Int.reduceNeg, Int.reduceMod, Int.reduceDiv, Int.reduceTMod, Int.reduceTDiv, Int.zero_add, Int.add_zero]; rfl) | rfl)) ?_; conv => whnf)
      | (refine quo_id ?_; first
        | (refine quo_in (by omega) (by (first | (simp only [Int.reduceAdd, Int.reduceSub, Int.reduceMul, Int.reduceNeg, Int.reduceMod, Int.reduceDiv, Int.reduceTMod, Int.reduceTDiv, Int.zero_add, Int.add_zero]; done) | (simp only [Int.reduceAdd, Int.reduceSub, Int.reduceMul, Int.reduceNeg, Int.reduceMod, Int.reduceDiv, Int.reduceTMod, Int.reduceTDiv, Int.zero_add, Int.add_zero]; rfl) | rfl)) (by (dsimp only [inR]; first | decide | omega)) ?_; conv => whnf)
        | (refine quo_t (by omega) (by (dsimp only [inR]; first | decide | omega)) ?_; conv => whnf))
      | (refine rem_id ?_; first
        | (refine rem_in (by omega) (by (first | (simp only [Int.reduceAdd, Int.reduceSub, Int.reduceMul, Int.reduceNeg, Int.reduceMod, Int.reduceDiv, Int.reduceTMod, Int.reduceTDiv, Int.zero_add, Int.add_zero]; done) | (simp only [Int.reduceAdd, Int.reduceSub, Int.reduceMul, Int.reduceNeg, Int.reduceMod, Int.reduceDiv, Int.reduceTMod, Int.reduceTDiv, Int.zero_add, Int.add_zero]; rfl) | rfl)) ?_; conv => whnf)
        | (refine rem_t (by omega) ?_; conv => whnf))
      | (refine app_id ?_; refine app_i (by (first | (simp only [Nat.zero_add, Nat.add_zero, Nat.mul_one, Nat.reduceAdd, Nat.reduceMul, Int.reduceToNat, Int.toNat_natCast, Int.toNat_zero, Int.toNat_one, Nat.zero_mul]; done) | (simp only [Nat.zero_add, Nat.add_zero, Nat.mul_one, Nat.reduceAdd, Nat.reduceMul, Int.reduceToNat, Int.toNat_natCast, Int.toNat_zero, Int.toNat_one, Nat.zero_mul]; rfl) | rfl)) (by (first | (simp only [List.nil_append, List.cons_append, List.append_nil]; done) | (simp only [List.nil_append, List.cons_append, List.append_nil]; rfl) | rfl)) (by omega) (by omega) ?_; intro _ _; conv => whnf)
      | (refine sl_id ?_; fail)
      | (refine eff_id ?_; fail)
      | (refine val_id ?_; fail)
      | (refine x_rnd ?_)
      | (refine x_rnd' ?_)
      | (refine xdrw_id ?_; fail))
    (refine fin_ret ?_)
    rfl
  · skip
    refine ret_x tab_ok Try.func25 rfl Try.ntmps25 (by rfl) ?_; simp only [argX, Nat.reduceAdd, Nat.zero_add]; conv => whnf
    repeat' (first
      | (fail)
      | (refine run_c tab_ok ?_; conv => whnf)
      | (refine side_id ?_; refine side_i (by first | rfl | exact ⟨rfl, rfl, rfl, rfl⟩ | trivial | (simp [allOne, partsOne, Value.cells, Value.oneCell']; done) | fail) ?_; conv => whnf)
      | (refine ar_id ?_; refine ar_in (by (first | (simp only [Int.reduceAdd, Int.reduceSub, Int.reduceMul, Int.reduceNeg, Int.reduceMod, Int.reduceDiv, Int.reduceTMod, Int.reduceTDiv, Int.zero_add, Int.add_zero]; done) | (simp only [Int.reduceAdd, Int.reduceSub, Int.reduceMul, Int.reduceNeg, Int.reduceMod, Int.reduceDiv, Int.reduceTMod, Int.reduceTDiv, Int.zero_add, Int.add_zero]; rfl) | rfl)) (by (dsimp only [inR]; first | decide | omega)) ?_; conv => whnf)
      | (refine new_i ?_; intro _; conv => whnf)
      | (refine br_id ?_; first
        | (refine br_t (by first | decide | omega | (with_reducible rfl) | fail | (simp only [cellEq, toB]; omega) | (simp only [cellEq, toB]; simp; done) | fail) ?_; conv => whnf)
        | (refine br_f (by first | decide | omega | (with_reducible exact Bool.false_ne_true) | (with_reducible refine not_not_intro ?_; fail) | (simp only [cellEq, toB]; omega) | (simp only [cellEq, toB]; simp; done) | fail) ?_; conv => whnf)
        | ((refine br_any (fun h => ?_) (fun h => ?_) <;> (try simp only [cellEq, toB, Bool.not_eq_true, Bool.not_eq_false] at h) <;> (try (exfalso; first | omega | contradiction | (simp at h; done) | fail); done) <;> conv => whnf)))
      | (refine ix_id ?_; first
        | (refine ix_lit (by first | decide | omega) (by (first | (simp only [Nat.zero_add, Nat.add_zero, Nat.mul_one, Nat.reduceAdd, Nat.reduceMul, Int.reduceToNat, Int.toNat_natCast, Int.toNat_zero, Int.toNat_one, Nat.zero_mul]; done) | (simp only [Nat.zero_add, Nat.add_zero, Nat.mul_one, Nat.reduceAdd, Nat.reduceMul, Int.reduceToNat, Int.toNat_natCast, Int.toNat_zero, Int.toNat_one, Nat.zero_mul]; rfl) | rfl)) (by rfl) ?_; conv => whnf)
        | (refine ix_sym (by omega) ?_; conv => whnf))
      | (refine lcall_id ?_; fail)
      | (refine lload_id ?_; first
        | (fail)
        | (refine load_old _ (by with_reducible assumption) (by simp; done) ?_; conv => whnf))
      | (refine lixs_id ?_; fail)
      | (refine ex_id ?_; refine ex_z (by (first | (simp only [Int.reduceAdd, Int.reduceSub, Int.reduceMul, Int.reduceNeg, Int.reduceMod, Int.reduceDiv, Int.reduceTMod, Int.reduceTDiv, Int.zero_add, Int.add_zero]; done) | (simp only [Int.reduceAdd, Int.reduceSub, Int.reduceMul, Int.reduceNeg, Int.reduceMod, Int.reduceDiv, Int.reduceTMod, Int.reduceTDiv, Int.zero_add, Int.add_zero]; rfl) | rfl)) ?_; conv => whnf)
      | (refine sh_id ?_; refine sh_z (by omega) (by (first | (simp only [Int.reduceAdd, Int.reduceSub, Int.reduceMul, Int.reduceNeg, Int.reduceMod, Int.reduceDiv, Int.reduceTMod, Int.reduceTDiv, Int.zero_add, Int.add_zero]; done) | (simp only [Int.reduceAdd, Int.reduceSub, Int.reduceMul, Int.reduceNeg, Int.reduceMod, Int.reduceDiv, Int.reduceTMod, Int.reduceTDiv, Int.zero_add, Int.add_zero]; rfl) | rfl)) ?_; conv => whnf)
      | (refine quo_id ?_; first
        | (refine quo_in (by omega) (by (first | (simp only [Int.reduceAdd, Int.reduceSub, Int.reduceMul, Int.reduceNeg, Int.reduceMod, Int.reduceDiv, Int.reduceTMod, Int.reduceTDiv, Int.zero_add, Int.add_zero]; done) | (simp only [Int.reduceAdd, Int.reduceSub, Int.reduceMul, Int.reduceNeg, Int.reduceMod, Int.reduceDiv, Int.reduceTMod, Int.reduceTDiv, Int.zero_add, Int.add_zero]; rfl) | rfl)) (by (dsimp only [inR]; first | decide | omega)) ?_; conv => whnf)
        | (refine quo_t (by omega) (by (dsimp only [inR]; first | decide | omega)) ?_; conv => whnf))
      | (refine rem_id ?_; first
        | (refine rem_in (by omega) (by (first | (simp only [Int.reduceAdd, Int.reduceSub, Int.reduceMul, Int.reduceNeg, Int.reduceMod, Int.reduceDiv, Int.reduceTMod, Int.reduceTDiv, Int.zero_add, Int.add_zero]; done) | (simp only [Int.reduceAdd, Int.reduceSub, Int.reduceMul, Int.reduceNeg, Int.reduceMod, Int.reduceDiv, Int.reduceTMod, Int.reduceTDiv, Int.zero_add, Int.add_zero]; rfl) | rfl)) ?_; conv => whnf)
        | (refine rem_t (by omega) ?_; conv => whnf))
      | (refine app_id ?_; refine app_i (by (first | (simp only [Nat.zero_add, Nat.add_zero, Nat.mul_one, Nat.reduceAdd, Nat.reduceMul, Int.reduceToNat, Int.toNat_natCast, Int.toNat_zero, Int.toNat_one, Nat.zero_mul]; done) | (simp only [Nat.zero_add, Nat.add_zero, Nat.mul_one, Nat.reduceAdd, Nat.reduceMul, Int.reduceToNat, Int.toNat_natCast, Int.toNat_zero, Int.toNat_one, Nat.zero_mul]; rfl) | rfl)) (by (first | (simp only [List.nil_append, List.cons_append, List.append_nil]; done) | (simp only [List.nil_append, List.cons_append, List.append_nil]; rfl) | rfl)) (by omega) (by omega) ?_; intro _ _; conv => whnf)
      | (refine sl_id ?_; fail)
      | (refine eff_id ?_; fail)
      | (refine val_id ?_; fail)
      | (refine x_rnd ?_)
      | (refine x_rnd' ?_)
      | (refine xdrw_id ?_; fail))
    (refine fin_ret ?_)
    rfl
  · skip
    refine ret_x tab_ok Try.func25 rfl Try.ntmps25 (by rfl) ?_; simp only [argX, Nat.reduceAdd, Nat.zero_add]; conv => whnf
    repeat' (first
      | (fail)
      | (refine run_c tab_ok ?_; conv => whnf)
      | (refine side_id ?_; refine side_i (by first | rfl | exact ⟨rfl, rfl, rfl, rfl⟩ | trivial | (simp [allOne, partsOne, Value.cells, Value.oneCell']; done) | fail) ?_; conv => whnf)
      | (refine ar_id ?_; refine ar_in (by (first | (simp only [Int.reduceAdd, Int.reduceSub, Int.reduceMul, Int.reduceNeg, Int.reduceMod, Int.reduceDiv, Int.reduceTMod, Int.reduceTDiv, Int.zero_add, Int.add_zero]; done) | (simp only [Int.reduceAdd, Int.reduceSub, Int.reduceMul, Int.reduceNeg, Int.reduceMod, Int.reduceDiv, Int.reduceTMod, Int.reduceTDiv, Int.zero_add, Int.add_zero]; rfl) | rfl)) (by (dsimp only [inR]; first | decide | omega)) ?_; conv => whnf)
      | (refine new_i ?_; intro _; conv => whnf)
      | (refine br_id ?_; first
        | (refine br_t (by first | decide | omega | (with_reducible rfl) | fail | (simp only [cellEq, toB]; omega) | (simp only [cellEq, toB]; simp; done) | fail) ?_; conv => whnf)
        | (refine br_f (by first | decide | omega | (with_reducible exact Bool.false_ne_true) | (with_reducible refine not_not_intro ?_; fail) | (simp only [cellEq, toB]; omega) | (simp only [cellEq, toB]; simp; done) | fail) ?_; conv => whnf)
        | ((refine br_any (fun h => ?_) (fun h => ?_) <;> (try simp only [cellEq, toB, Bool.not_eq_true, Bool.not_eq_false] at h) <;> (try (exfalso; first | omega | contradiction | (simp at h; done) | fail); done) <;> conv => whnf)))
      | (refine ix_id ?_; first
        | (refine ix_lit (by first | decide | omega) (by (first | (simp only [Nat.zero_add, Nat.add_zero, Nat.mul_one, Nat.reduceAdd, Nat.reduceMul, Int.reduceToNat, Int.toNat_natCast, Int.toNat_zero, Int.toNat_one, Nat.zero_mul]; done) | (simp only [Nat.zero_add, Nat.add_zero, Nat.mul_one, Nat.reduceAdd, Nat.reduceMul, Int.reduceToNat, Int.toNat_natCast, Int.toNat_zero, Int.toNat_one, Nat.zero_mul]; rfl) | rfl)) (by rfl) ?_; conv => whnf)
        | (refine ix_sym (by omega) ?_; conv => whnf))
      | (refine lcall_id ?_; fail)
      | (refine lload_id ?_; first
        | (fail)
        | (refine load_old _ (by with_reducible assumption) (by simp; done) ?_; conv => whnf))
      | (refine lixs_id ?_; fail)
      | (refine ex_id ?_; refine ex_z (by (first | (simp only [Int.reduceAdd, Int.reduceSub, Int.reduceMul, Int.reduceNeg, Int.reduceMod, Int.reduceDiv, Int.reduceTMod, Int.reduceTDiv, Int.zero_add, Int.add_zero]; done) | (simp only [Int.reduceAdd, Int.reduceSub, Int.reduceMul, Int.reduceNeg, Int.reduceMod, Int.reduceDiv, Int.reduceTMod, Int.reduceTDiv, Int.zero_add, Int.add_zero]; rfl) | rfl)) ?_; conv => whnf)
      | (refine sh_id ?_; refine sh_z (by omega) (by (first | (simp only [Int.reduceAdd, Int.reduceSub, Int.reduceMul, Int.reduceNeg, Int.reduceMod, Int.reduceDiv, Int.reduceTMod, Int.reduceTDiv, Int.zero_add, Int.add_zero]; done) | (simp only [Int.reduceAdd, Int.reduceSub, Int.reduceMul, Int.reduceNeg, Int.reduceMod, Int.reduceDiv, Int.reduceTMod, Int.reduceTDiv, Int.zero_add, Int.add_zero]; rfl) | rfl)) ?_; conv => whnf)
      | (refine quo_id ?_; first
        | (refine quo_in (by omega) (by (first | (simp only [Int.reduceAdd, Int.reduceSub, Int.reduceMul, Int.reduceNeg, Int.reduceMod, Int.reduceDiv, Int.reduceTMod, Int.reduceTDiv, Int.zero_add, Int.add_zero]; done) | (simp only [Int.reduceAdd, Int.reduceSub, Int.reduceMul, Int.reduceNeg, Int.reduceMod, Int.reduceDiv, Int.reduceTMod, Int.reduceTDiv, Int.zero_add, Int.add_zero]; rfl) | rfl)) (by (dsimp only [inR]; first | decide | omega)) ?_; conv => whnf)
        | (refine quo_t (by omega) (by (dsimp only [inR]; first | decide | omega)) ?_; conv => whnf))
      | (refine rem_id ?_; first
        | (refine rem_in (by omega) (by (first | (simp only [Int.reduceAdd, Int.reduceSub, Int.reduceMul, Int.reduceNeg, Int.reduceMod, Int.reduceDiv, Int.reduceTMod, Int.reduceTDiv, Int.zero_add, Int.add_zero]; done) | (simp only [Int.reduceAdd, Int.reduceSub, Int.reduceMul, Int.reduceNeg, Int.reduceMod, Int.reduceDiv, Int.reduceTMod, Int.reduceTDiv, Int.zero_add, Int.add_zero]; rfl) | rfl)) ?_; conv => whnf)
        | (refine rem_t (by omega) ?_; conv => whnf))
      | (refine app_id ?_; refine app_i (by (first | (simp only [Nat.zero_add, Nat.add_zero, Nat.mul_one, Nat.reduceAdd, Nat.reduceMul, Int.reduceToNat, Int.toNat_natCast, Int.toNat_zero, Int.toNat_one, Nat.zero_mul]; done) | (simp only [Nat.zero_add, Nat.add_zero, Nat.mul_one, Nat.reduceAdd, Nat.reduceMul, Int.reduceToNat, Int.toNat_natCast, Int.toNat_zero, Int.toNat_one, Nat.zero_mul]; rfl) | rfl)) (by (first | (simp only [List.nil_append, List.cons_append, List.append_nil]; done) | (simp only [List.nil_append, List.cons_append, List.append_nil]; rfl) | rfl)) (by omega) (by omega) ?_; intro _ _; conv => whnf)
      | (refine sl_id ?_; fail)
      | (refine eff_id ?_; fail)
      | (refine val_id ?_; fail)
      | (refine x_rnd ?_)
      | (refine x_rnd' ?_)
      | (refine xdrw_id ?_; fail))
    (refine fin_ret ?_)
    rfl
  · have e0 : axv i 0 = 0 := by rw [axv, if_neg (by omega)]
    have e1 : axv i 1 = 0 := by rw [axv, if_neg (by omega)]
    have e2 : axv i 2 = 0 := by rw [axv, if_neg (by omega)]
    rw [e0, e1, e2]
    clear e0 e1 e2
    refine ret_x tab_ok Try.func25 rfl Try.ntmps25 (by rfl) ?_; simp only [argX, Nat.reduceAdd, Nat.zero_add]; conv => whnf
    rcases h0 with h0 | h0
    all_goals (
      repeat' (first
        | (fail)
        | (refine run_c tab_ok ?_; conv => whnf)
        | (refine side_id ?_; refine side_i (by first | rfl | exact ⟨rfl, rfl, rfl, rfl⟩ | trivial | (simp [allOne, partsOne, Value.cells, Value.oneCell']; done) | fail) ?_; conv => whnf)
        | (refine ar_id ?_; refine ar_in (by (first | (simp only [Int.reduceAdd, Int.reduceSub, Int.reduceMul, Int.reduceNeg, Int.reduceMod, Int.reduceDiv, Int.reduceTMod, Int.reduceTDiv, Int.zero_add, Int.add_zero]; done) | (simp only [Int.reduceAdd, Int.reduceSub, Int.reduceMul, Int.reduceNeg, Int.reduceMod, Int.reduceDiv, Int.reduceTMod, Int.reduceTDiv, Int.zero_add, Int.add_zero]; rfl) | rfl)) (by (dsimp only [inR]; first | decide | omega)) ?_; conv => whnf)
        | (refine new_i ?_; intro _; conv => whnf)
        | (refine br_id ?_; first
          | (refine br_t (by first | decide | omega | (with_reducible rfl) | fail | (simp only [cellEq, toB]; omega) | (simp only [cellEq, toB]; simp; done) | fail) ?_; conv => whnf)
          | (refine br_f (by first | decide | omega | (with_reducible exact Bool.false_ne_true) | (with_reducible refine not_not_intro ?_; fail) | (simp only [cellEq, toB]; omega) | (simp only [cellEq, toB]; simp; done) | fail) ?_; conv => whnf)
          | ((refine br_any (fun h => ?_) (fun h => ?_) <;> (try simp only [cellEq, toB, Bool.not_eq_true, Bool.not_eq_false] at h) <;> (try (exfalso; first | omega | contradiction | (simp at h; done) | fail); done) <;> conv => whnf)))
        | (refine ix_id ?_; first
          | (refine ix_lit (by first | decide | omega) (by (first | (simp only [Nat.zero_add, Nat.add_zero, Nat.mul_one, Nat.reduceAdd, Nat.reduceMul, Int.reduceToNat, Int.toNat_natCast, Int.toNat_zero, Int.toNat_one, Nat.zero_mul]; done) | (simp only [Nat.zero_add, Nat.add_zero, Nat.mul_one, Nat.reduceAdd, Nat.reduceMul, Int.reduceToNat, Int.toNat_natCast, Int.toNat_zero, Int.toNat_one, Nat.zero_mul]; rfl) | rfl)) (by rfl) ?_; conv => whnf)
          | (refine ix_sym (by omega) ?_; conv => whnf))
        | (refine lcall_id ?_; fail)
        | (refine lload_id ?_; first
          | (fail)
          | (refine load_old _ (by with_reducible assumption) (by simp; done) ?_; conv => whnf))
        | (refine lixs_id ?_; fail)
        | (refine ex_id ?_; refine ex_z (by (first | (simp only [Int.reduceAdd, Int.reduceSub, Int.reduceMul, Int.reduceNeg, Int.reduceMod, Int.reduceDiv, Int.reduceTMod, Int.reduceTDiv, Int.zero_add, Int.add_zero]; done) | (simp only [Int.reduceAdd, Int.reduceSub, Int.reduceMul, Int.reduceNeg, Int.reduceMod, Int.reduceDiv, Int.reduceTMod, Int.reduceTDiv, Int.zero_add, Int.add_zero]; rfl) | rfl)) ?_; conv => whnf)
        | (refine sh_id ?_; refine sh_z (by omega) (by (first | (simp only [Int.reduceAdd, Int.reduceSub, Int.reduceMul, Int.reduceNeg, Int.reduceMod, Int.reduceDiv, Int.reduceTMod, Int.reduceTDiv, Int.zero_add, Int.add_zero]; done) | (simp only [Int.reduceAdd, Int.reduceSub, Int.reduceMul, Int.reduceNeg, Int.reduceMod, Int.reduceDiv, Int.reduceTMod, Int.reduceTDiv, Int.zero_add, Int.add_zero]; rfl) | rfl)) ?_; conv => whnf)
        | (refine quo_id ?_; first
          | (refine quo_in (by omega) (by (first | (simp only [Int.reduceAdd, Int.reduceSub, Int.reduceMul, Int.reduceNeg, Int.reduceMod, Int.reduceDiv, Int.reduceTMod, Int.reduceTDiv, Int.zero_add, Int.add_zero]; done) | (simp only [Int.reduceAdd, Int.reduceSub, Int.reduceMul, Int.reduceNeg, Int.reduceMod, Int.reduceDiv, Int.reduceTMod, Int.reduceTDiv, Int.zero_add, Int.add_zero]; rfl) | rfl)) (by (dsimp only [inR]; first | decide | omega)) ?_; conv => whnf)
          | (refine quo_t (by omega) (by (dsimp only [inR]; first | decide | omega)) ?_; conv => whnf))
        | (refine rem_id ?_; first
          | (refine rem_in (by omega) (by (first | (simp only [Int.reduceAdd, Int.reduceSub, Int.reduceMul, Int.reduceNeg, Int.reduceMod, Int.reduceDiv, Int.reduceTMod, Int.reduceTDiv, Int.zero_add, Int.add_zero]; done) | (simp only [Int.reduceAdd, Int.reduceSub, Int.reduceMul, Int.reduceNeg, Int.reduceMod, Int.reduceDiv, Int.reduceTMod, Int.reduceTDiv, Int.zero_add, Int.add_zero]; rfl) | rfl)) ?_; conv => whnf)
          | (refine rem_t (by omega) ?_; conv => whnf))
        | (refine app_id ?_; refine app_i (by (first | (simp only [Nat.zero_add, Nat.add_zero, Nat.mul_one, Nat.reduceAdd, Nat.reduceMul, Int.reduceToNat, Int.toNat_natCast, Int.toNat_zero, Int.toNat_one, Nat.zero_mul]; done) | (simp only [Nat.zero_add, Nat.add_zero, Nat.mul_one, Nat.reduceAdd, Nat.reduceMul, Int.reduceToNat, Int.toNat_natCast, Int.toNat_zero, Int.toNat_one, Nat.zero_mul]; rfl) | rfl)) (by (first | (simp only [List.nil_append, List.cons_append, List.append_nil]; done) | (simp only [List.nil_append, List.cons_append, List.append_nil]; rfl) | rfl)) (by omega) (by omega) ?_; intro _ _; conv => whnf)
        | (refine sl_id ?_; fail)
        | (refine eff_id ?_; fail)
        | (refine val_id ?_; fail)
        | (refine x_rnd ?_)
        | (refine x_rnd' ?_)
        | (refine xdrw_id ?_; fail))
      (refine fin_ret ?_)
      rfl)

/-- A part of the dipole. -/
def damp (b l g q m : Int) : Int := clampv (sat (-(sat (sat (b - l) * g / 2 ^ pt q)))) (-pos m) (pos m)
theorem bdotno_S (b0 b1 b2 l0 l1 l2 g q m : Int) (w : World) (hb0 : I32 b0) (hb1 : I32 b1) (hb2 : I32 b2) (hl0 : I32 l0) (hl1 : I32 l1) (hl2 : I32 l2) (hg : I32 g) (hm : I32 m) :
    RetS Try.prog 11 [v3 b0 b1 b2, v3 l0 l1 l2, .lit false, i32 g, i64 q, i32 m] w (v3 (damp b0 l0 g q m) (damp b1 l1 g q m) (damp b2 l2 g q m)) := by
  refine ret_x tab_ok Try.func11 rfl Try.ntmps11 (by rfl) ?_; simp only [argX, Nat.reduceAdd, Nat.zero_add]; conv => whnf
  repeat' (first
    | (fail)
    | (refine run_c tab_ok ?_; conv => whnf)
    | (refine side_id ?_; refine side_i (by first | rfl | exact ⟨rfl, rfl, rfl, rfl⟩ | trivial | (simp [allOne, partsOne, Value.cells, Value.oneCell']; done) | fail) ?_; conv => whnf)
    | (refine ar_id ?_; refine ar_in (by (first | (simp only [Int.reduceAdd, Int.reduceSub, Int.reduceMul, Int.reduceNeg, Int.reduceMod, Int.reduceDiv, Int.reduceTMod, Int.reduceTDiv, Int.zero_add, Int.add_zero]; done) | (simp only [Int.reduceAdd, Int.reduceSub, Int.reduceMul, Int.reduceNeg, Int.reduceMod, Int.reduceDiv, Int.reduceTMod, Int.reduceTDiv, Int.zero_add, Int.add_zero]; rfl) | rfl)) (by (dsimp only [inR]; first | decide | omega)) ?_; conv => whnf)
    | (refine new_i ?_; intro _; conv => whnf)
    | (refine br_id ?_; first
      | (refine br_t (by first | decide | omega | (with_reducible rfl) | fail | (simp only [cellEq, toB]; omega) | (simp only [cellEq, toB]; simp; done) | fail) ?_; conv => whnf)
      | (refine br_f (by first | decide | omega | (with_reducible exact Bool.false_ne_true) | (with_reducible refine not_not_intro ?_; fail) | (simp only [cellEq, toB]; omega) | (simp only [cellEq, toB]; simp; done) | fail) ?_; conv => whnf)
      | ((refine br_any (fun h => ?_) (fun h => ?_) <;> (try simp only [cellEq, toB, Bool.not_eq_true, Bool.not_eq_false] at h) <;> (try (exfalso; first | omega | contradiction | (simp at h; done) | fail); done) <;> conv => whnf)))
    | (refine ix_id ?_; first
      | (refine ix_lit (by first | decide | omega) (by (first | (simp only [Nat.zero_add, Nat.add_zero, Nat.mul_one, Nat.reduceAdd, Nat.reduceMul, Int.reduceToNat, Int.toNat_natCast, Int.toNat_zero, Int.toNat_one, Nat.zero_mul]; done) | (simp only [Nat.zero_add, Nat.add_zero, Nat.mul_one, Nat.reduceAdd, Nat.reduceMul, Int.reduceToNat, Int.toNat_natCast, Int.toNat_zero, Int.toNat_one, Nat.zero_mul]; rfl) | rfl)) (by rfl) ?_; conv => whnf)
      | (refine ix_sym (by omega) ?_; conv => whnf))
    | (refine lcall_id ?_; first | (refine lcall_ret (fun w' hl => axis_S _ w') ?_; conv => whnf) | (refine lcall_ret (fun w' hl => vsub_S _ _ _ _ _ _ w' (by first | assumption | exact sat_i32 _ | exact crs_i32 _ _ _ _ _ | exact axv_i32 _ _ | exact clampv_i32 _ _ (by assumption) | exact i32_of (by omega) (by omega)) (by first | assumption | exact sat_i32 _ | exact crs_i32 _ _ _ _ _ | exact axv_i32 _ _ | exact clampv_i32 _ _ (by assumption) | exact i32_of (by omega) (by omega)) (by first | assumption | exact sat_i32 _ | exact crs_i32 _ _ _ _ _ | exact axv_i32 _ _ | exact clampv_i32 _ _ (by assumption) | exact i32_of (by omega) (by omega)) (by first | assumption | exact sat_i32 _ | exact crs_i32 _ _ _ _ _ | exact axv_i32 _ _ | exact clampv_i32 _ _ (by assumption) | exact i32_of (by omega) (by omega)) (by first | assumption | exact sat_i32 _ | exact crs_i32 _ _ _ _ _ | exact axv_i32 _ _ | exact clampv_i32 _ _ (by assumption) | exact i32_of (by omega) (by omega)) (by first | assumption | exact sat_i32 _ | exact crs_i32 _ _ _ _ _ | exact axv_i32 _ _ | exact clampv_i32 _ _ (by assumption) | exact i32_of (by omega) (by omega))) ?_; conv => whnf) | (refine lcall_ret (fun w' hl => vneg_S _ _ _ w' (by first | assumption | exact sat_i32 _ | exact crs_i32 _ _ _ _ _ | exact axv_i32 _ _ | exact clampv_i32 _ _ (by assumption) | exact i32_of (by omega) (by omega)) (by first | assumption | exact sat_i32 _ | exact crs_i32 _ _ _ _ _ | exact axv_i32 _ _ | exact clampv_i32 _ _ (by assumption) | exact i32_of (by omega) (by omega)) (by first | assumption | exact sat_i32 _ | exact crs_i32 _ _ _ _ _ | exact axv_i32 _ _ | exact clampv_i32 _ _ (by assumption) | exact i32_of (by omega) (by omega))) ?_; conv => whnf) | (refine lcall_ret (fun w' hl => vscale_S _ _ _ _ _ w' (by first | assumption | exact sat_i32 _ | exact crs_i32 _ _ _ _ _ | exact axv_i32 _ _ | exact clampv_i32 _ _ (by assumption) | exact i32_of (by omega) (by omega)) (by first | assumption | exact sat_i32 _ | exact crs_i32 _ _ _ _ _ | exact axv_i32 _ _ | exact clampv_i32 _ _ (by assumption) | exact i32_of (by omega) (by omega)) (by first | assumption | exact sat_i32 _ | exact crs_i32 _ _ _ _ _ | exact axv_i32 _ _ | exact clampv_i32 _ _ (by assumption) | exact i32_of (by omega) (by omega)) (by first | assumption | exact sat_i32 _ | exact crs_i32 _ _ _ _ _ | exact axv_i32 _ _ | exact clampv_i32 _ _ (by assumption) | exact i32_of (by omega) (by omega))) ?_; conv => whnf) | (refine lcall_ret (fun w' hl => vclamp_S _ _ _ _ w' (by first | assumption | exact sat_i32 _ | exact crs_i32 _ _ _ _ _ | exact axv_i32 _ _ | exact clampv_i32 _ _ (by assumption) | exact i32_of (by omega) (by omega)) (by first | assumption | exact sat_i32 _ | exact crs_i32 _ _ _ _ _ | exact axv_i32 _ _ | exact clampv_i32 _ _ (by assumption) | exact i32_of (by omega) (by omega)) (by first | assumption | exact sat_i32 _ | exact crs_i32 _ _ _ _ _ | exact axv_i32 _ _ | exact clampv_i32 _ _ (by assumption) | exact i32_of (by omega) (by omega)) (by first | assumption | exact sat_i32 _ | exact crs_i32 _ _ _ _ _ | exact axv_i32 _ _ | exact clampv_i32 _ _ (by assumption) | exact i32_of (by omega) (by omega))) ?_; conv => whnf) | (refine lcall_ret (fun w' hl => vcross_S _ _ _ _ _ _ _ w' (by first | assumption | exact sat_i32 _ | exact crs_i32 _ _ _ _ _ | exact axv_i32 _ _ | exact clampv_i32 _ _ (by assumption) | exact i32_of (by omega) (by omega)) (by first | assumption | exact sat_i32 _ | exact crs_i32 _ _ _ _ _ | exact axv_i32 _ _ | exact clampv_i32 _ _ (by assumption) | exact i32_of (by omega) (by omega)) (by first | assumption | exact sat_i32 _ | exact crs_i32 _ _ _ _ _ | exact axv_i32 _ _ | exact clampv_i32 _ _ (by assumption) | exact i32_of (by omega) (by omega)) (by first | assumption | exact sat_i32 _ | exact crs_i32 _ _ _ _ _ | exact axv_i32 _ _ | exact clampv_i32 _ _ (by assumption) | exact i32_of (by omega) (by omega)) (by first | assumption | exact sat_i32 _ | exact crs_i32 _ _ _ _ _ | exact axv_i32 _ _ | exact clampv_i32 _ _ (by assumption) | exact i32_of (by omega) (by omega)) (by first | assumption | exact sat_i32 _ | exact crs_i32 _ _ _ _ _ | exact axv_i32 _ _ | exact clampv_i32 _ _ (by assumption) | exact i32_of (by omega) (by omega))) ?_; conv => whnf) | (refine lcall_ret (fun w' hl => vdot_S _ _ _ _ _ _ w' (by first | assumption | exact sat_i32 _ | exact crs_i32 _ _ _ _ _ | exact axv_i32 _ _ | exact clampv_i32 _ _ (by assumption) | exact i32_of (by omega) (by omega)) (by first | assumption | exact sat_i32 _ | exact crs_i32 _ _ _ _ _ | exact axv_i32 _ _ | exact clampv_i32 _ _ (by assumption) | exact i32_of (by omega) (by omega)) (by first | assumption | exact sat_i32 _ | exact crs_i32 _ _ _ _ _ | exact axv_i32 _ _ | exact clampv_i32 _ _ (by assumption) | exact i32_of (by omega) (by omega)) (by first | assumption | exact sat_i32 _ | exact crs_i32 _ _ _ _ _ | exact axv_i32 _ _ | exact clampv_i32 _ _ (by assumption) | exact i32_of (by omega) (by omega)) (by first | assumption | exact sat_i32 _ | exact crs_i32 _ _ _ _ _ | exact axv_i32 _ _ | exact clampv_i32 _ _ (by assumption) | exact i32_of (by omega) (by omega)) (by first | assumption | exact sat_i32 _ | exact crs_i32 _ _ _ _ _ | exact axv_i32 _ _ | exact clampv_i32 _ _ (by assumption) | exact i32_of (by omega) (by omega))) ?_; conv => whnf) | (refine lcall_ret (fun w' hl => vzero_S _ _ _ w') ?_; conv => whnf) | (refine lcall_ret (fun w' hl => vsigns_S _ _ _ _ w' (by first | assumption | exact sat_i32 _ | exact crs_i32 _ _ _ _ _ | exact axv_i32 _ _ | exact clampv_i32 _ _ (by assumption) | exact i32_of (by omega) (by omega)) (by first | assumption | exact sat_i32 _ | exact crs_i32 _ _ _ _ _ | exact axv_i32 _ _ | exact clampv_i32 _ _ (by assumption) | exact i32_of (by omega) (by omega)) (by first | assumption | exact sat_i32 _ | exact crs_i32 _ _ _ _ _ | exact axv_i32 _ _ | exact clampv_i32 _ _ (by assumption) | exact i32_of (by omega) (by omega)) (by first | assumption | exact sat_i32 _ | exact crs_i32 _ _ _ _ _ | exact axv_i32 _ _ | exact clampv_i32 _ _ (by assumption) | exact i32_of (by omega) (by omega))) ?_; conv => whnf) | (refine lcall_ret (fun w' hl => vadd3_B _ _ _ _ _ _ _ _ _ w' (by first | assumption | exact sat_i32 _ | exact crs_i32 _ _ _ _ _ | exact axv_i32 _ _ | exact clampv_i32 _ _ (by assumption) | exact i32_of (by omega) (by omega)) (by first | assumption | exact sat_i32 _ | exact crs_i32 _ _ _ _ _ | exact axv_i32 _ _ | exact clampv_i32 _ _ (by assumption) | exact i32_of (by omega) (by omega)) (by first | assumption | exact sat_i32 _ | exact crs_i32 _ _ _ _ _ | exact axv_i32 _ _ | exact clampv_i32 _ _ (by assumption) | exact i32_of (by omega) (by omega)) (by first | assumption | exact sat_i32 _ | exact crs_i32 _ _ _ _ _ | exact axv_i32 _ _ | exact clampv_i32 _ _ (by assumption) | exact i32_of (by omega) (by omega)) (by first | assumption | exact sat_i32 _ | exact crs_i32 _ _ _ _ _ | exact axv_i32 _ _ | exact clampv_i32 _ _ (by assumption) | exact i32_of (by omega) (by omega)) (by first | assumption | exact sat_i32 _ | exact crs_i32 _ _ _ _ _ | exact axv_i32 _ _ | exact clampv_i32 _ _ (by assumption) | exact i32_of (by omega) (by omega)) (by first | assumption | exact sat_i32 _ | exact crs_i32 _ _ _ _ _ | exact axv_i32 _ _ | exact clampv_i32 _ _ (by assumption) | exact i32_of (by omega) (by omega)) (by first | assumption | exact sat_i32 _ | exact crs_i32 _ _ _ _ _ | exact axv_i32 _ _ | exact clampv_i32 _ _ (by assumption) | exact i32_of (by omega) (by omega)) (by first | assumption | exact sat_i32 _ | exact crs_i32 _ _ _ _ _ | exact axv_i32 _ _ | exact clampv_i32 _ _ (by assumption) | exact i32_of (by omega) (by omega)) _ _ (vrX (vs := [⟨_, _, _⟩, ⟨_, _, _⟩, ⟨_, _, _⟩]) hl (by rfl) (by rfl))) ?_; conv => whnf) | (refine lcall_ret (fun w' hl => vadd2_B _ _ _ _ _ _ w' (by first | assumption | exact sat_i32 _ | exact crs_i32 _ _ _ _ _ | exact axv_i32 _ _ | exact clampv_i32 _ _ (by assumption) | exact i32_of (by omega) (by omega)) (by first | assumption | exact sat_i32 _ | exact crs_i32 _ _ _ _ _ | exact axv_i32 _ _ | exact clampv_i32 _ _ (by assumption) | exact i32_of (by omega) (by omega)) (by first | assumption | exact sat_i32 _ | exact crs_i32 _ _ _ _ _ | exact axv_i32 _ _ | exact clampv_i32 _ _ (by assumption) | exact i32_of (by omega) (by omega)) (by first | assumption | exact sat_i32 _ | exact crs_i32 _ _ _ _ _ | exact axv_i32 _ _ | exact clampv_i32 _ _ (by assumption) | exact i32_of (by omega) (by omega)) (by first | assumption | exact sat_i32 _ | exact crs_i32 _ _ _ _ _ | exact axv_i32 _ _ | exact clampv_i32 _ _ (by assumption) | exact i32_of (by omega) (by omega)) (by first | assumption | exact sat_i32 _ | exact crs_i32 _ _ _ _ _ | exact axv_i32 _ _ | exact clampv_i32 _ _ (by assumption) | exact i32_of (by omega) (by omega)) _ _ (vrX (vs := [⟨_, _, _⟩, ⟨_, _, _⟩]) hl (by rfl) (by rfl))) ?_; conv => whnf) | (refine lcall_ret (fun w' hl => vadd0_S w' _) ?_; conv => whnf) | (refine lcall_ret (fun w' hl => power_S _ w') ?_; conv => whnf) | (refine lcall_ret (fun w' hl => down_S w' _ _ (by omega) hp.1) ?_; conv => whnf) | (refine lcall_ret (fun w' hl => rsat_S w' _) ?_; conv => whnf))
    | (refine lload_id ?_; first
      | (fail)
      | (refine load_old _ (by with_reducible assumption) (by simp; done) ?_; conv => whnf))
    | (refine lixs_id ?_; fail)
    | (refine ex_id ?_; refine ex_z (by (first | (simp only [Int.reduceAdd, Int.reduceSub, Int.reduceMul, Int.reduceNeg, Int.reduceMod, Int.reduceDiv, Int.reduceTMod, Int.reduceTDiv, Int.zero_add, Int.add_zero]; done) | (simp only [Int.reduceAdd, Int.reduceSub, Int.reduceMul, Int.reduceNeg, Int.reduceMod, Int.reduceDiv, Int.reduceTMod, Int.reduceTDiv, Int.zero_add, Int.add_zero]; rfl) | rfl)) ?_; conv => whnf)
    | (refine sh_id ?_; refine sh_z (by omega) (by (first | (simp only [Int.reduceAdd, Int.reduceSub, Int.reduceMul, Int.reduceNeg, Int.reduceMod, Int.reduceDiv, Int.reduceTMod, Int.reduceTDiv, Int.zero_add, Int.add_zero]; done) | (simp only [Int.reduceAdd, Int.reduceSub, Int.reduceMul, Int.reduceNeg, Int.reduceMod, Int.reduceDiv, Int.reduceTMod, Int.reduceTDiv, Int.zero_add, Int.add_zero]; rfl) | rfl)) ?_; conv => whnf)
    | (refine quo_id ?_; first
      | (refine quo_in (by omega) (by (first | (simp only [Int.reduceAdd, Int.reduceSub, Int.reduceMul, Int.reduceNeg, Int.reduceMod, Int.reduceDiv, Int.reduceTMod, Int.reduceTDiv, Int.zero_add, Int.add_zero]; done) | (simp only [Int.reduceAdd, Int.reduceSub, Int.reduceMul, Int.reduceNeg, Int.reduceMod, Int.reduceDiv, Int.reduceTMod, Int.reduceTDiv, Int.zero_add, Int.add_zero]; rfl) | rfl)) (by (dsimp only [inR]; first | decide | omega)) ?_; conv => whnf)
      | (refine quo_t (by omega) (by (dsimp only [inR]; first | decide | omega)) ?_; conv => whnf))
    | (refine rem_id ?_; first
      | (refine rem_in (by omega) (by (first | (simp only [Int.reduceAdd, Int.reduceSub, Int.reduceMul, Int.reduceNeg, Int.reduceMod, Int.reduceDiv, Int.reduceTMod, Int.reduceTDiv, Int.zero_add, Int.add_zero]; done) | (simp only [Int.reduceAdd, Int.reduceSub, Int.reduceMul, Int.reduceNeg, Int.reduceMod, Int.reduceDiv, Int.reduceTMod, Int.reduceTDiv, Int.zero_add, Int.add_zero]; rfl) | rfl)) ?_; conv => whnf)
      | (refine rem_t (by omega) ?_; conv => whnf))
    | (refine app_id ?_; refine app_i (by (first | (simp only [Nat.zero_add, Nat.add_zero, Nat.mul_one, Nat.reduceAdd, Nat.reduceMul, Int.reduceToNat, Int.toNat_natCast, Int.toNat_zero, Int.toNat_one, Nat.zero_mul]; done) | (simp only [Nat.zero_add, Nat.add_zero, Nat.mul_one, Nat.reduceAdd, Nat.reduceMul, Int.reduceToNat, Int.toNat_natCast, Int.toNat_zero, Int.toNat_one, Nat.zero_mul]; rfl) | rfl)) (by (first | (simp only [List.nil_append, List.cons_append, List.append_nil]; done) | (simp only [List.nil_append, List.cons_append, List.append_nil]; rfl) | rfl)) (by omega) (by omega) ?_; intro _ _; conv => whnf)
    | (refine sl_id ?_; fail)
    | (refine eff_id ?_; fail)
    | (refine val_id ?_; fail)
    | (refine x_rnd ?_)
    | (refine x_rnd' ?_)
    | (refine xdrw_id ?_; fail))
  (refine fin_ret ?_)
  rfl
theorem bdotyes_S (b0 b1 b2 l0 l1 l2 g q m : Int) (w : World) :
    RetS Try.prog 11 [v3 b0 b1 b2, v3 l0 l1 l2, .lit true, i32 g, i64 q, i32 m] w (v3 0 0 0) := by
  refine ret_x tab_ok Try.func11 rfl Try.ntmps11 (by rfl) ?_; simp only [argX, Nat.reduceAdd, Nat.zero_add]; conv => whnf
  repeat' (first
    | (fail)
    | (refine run_c tab_ok ?_; conv => whnf)
    | (refine side_id ?_; refine side_i (by first | rfl | exact ⟨rfl, rfl, rfl, rfl⟩ | trivial | (simp [allOne, partsOne, Value.cells, Value.oneCell']; done) | fail) ?_; conv => whnf)
    | (refine ar_id ?_; refine ar_in (by (first | (simp only [Int.reduceAdd, Int.reduceSub, Int.reduceMul, Int.reduceNeg, Int.reduceMod, Int.reduceDiv, Int.reduceTMod, Int.reduceTDiv, Int.zero_add, Int.add_zero]; done) | (simp only [Int.reduceAdd, Int.reduceSub, Int.reduceMul, Int.reduceNeg, Int.reduceMod, Int.reduceDiv, Int.reduceTMod, Int.reduceTDiv, Int.zero_add, Int.add_zero]; rfl) | rfl)) (by (dsimp only [inR]; first | decide | omega)) ?_; conv => whnf)
    | (refine new_i ?_; intro _; conv => whnf)
    | (refine br_id ?_; first
      | (refine br_t (by first | decide | omega | (with_reducible rfl) | fail | (simp only [cellEq, toB]; omega) | (simp only [cellEq, toB]; simp; done) | fail) ?_; conv => whnf)
      | (refine br_f (by first | decide | omega | (with_reducible exact Bool.false_ne_true) | (with_reducible refine not_not_intro ?_; fail) | (simp only [cellEq, toB]; omega) | (simp only [cellEq, toB]; simp; done) | fail) ?_; conv => whnf)
      | ((refine br_any (fun h => ?_) (fun h => ?_) <;> (try simp only [cellEq, toB, Bool.not_eq_true, Bool.not_eq_false] at h) <;> (try (exfalso; first | omega | contradiction | (simp at h; done) | fail); done) <;> conv => whnf)))
    | (refine ix_id ?_; first
      | (refine ix_lit (by first | decide | omega) (by (first | (simp only [Nat.zero_add, Nat.add_zero, Nat.mul_one, Nat.reduceAdd, Nat.reduceMul, Int.reduceToNat, Int.toNat_natCast, Int.toNat_zero, Int.toNat_one, Nat.zero_mul]; done) | (simp only [Nat.zero_add, Nat.add_zero, Nat.mul_one, Nat.reduceAdd, Nat.reduceMul, Int.reduceToNat, Int.toNat_natCast, Int.toNat_zero, Int.toNat_one, Nat.zero_mul]; rfl) | rfl)) (by rfl) ?_; conv => whnf)
      | (refine ix_sym (by omega) ?_; conv => whnf))
    | (refine lcall_id ?_; first | (refine lcall_ret (fun w' hl => axis_S _ w') ?_; conv => whnf) | (refine lcall_ret (fun w' hl => vsub_S _ _ _ _ _ _ w' (by first | assumption | exact sat_i32 _ | exact crs_i32 _ _ _ _ _ | exact axv_i32 _ _ | exact clampv_i32 _ _ (by assumption) | exact i32_of (by omega) (by omega)) (by first | assumption | exact sat_i32 _ | exact crs_i32 _ _ _ _ _ | exact axv_i32 _ _ | exact clampv_i32 _ _ (by assumption) | exact i32_of (by omega) (by omega)) (by first | assumption | exact sat_i32 _ | exact crs_i32 _ _ _ _ _ | exact axv_i32 _ _ | exact clampv_i32 _ _ (by assumption) | exact i32_of (by omega) (by omega)) (by first | assumption | exact sat_i32 _ | exact crs_i32 _ _ _ _ _ | exact axv_i32 _ _ | exact clampv_i32 _ _ (by assumption) | exact i32_of (by omega) (by omega)) (by first | assumption | exact sat_i32 _ | exact crs_i32 _ _ _ _ _ | exact axv_i32 _ _ | exact clampv_i32 _ _ (by assumption) | exact i32_of (by omega) (by omega)) (by first | assumption | exact sat_i32 _ | exact crs_i32 _ _ _ _ _ | exact axv_i32 _ _ | exact clampv_i32 _ _ (by assumption) | exact i32_of (by omega) (by omega))) ?_; conv => whnf) | (refine lcall_ret (fun w' hl => vneg_S _ _ _ w' (by first | assumption | exact sat_i32 _ | exact crs_i32 _ _ _ _ _ | exact axv_i32 _ _ | exact clampv_i32 _ _ (by assumption) | exact i32_of (by omega) (by omega)) (by first | assumption | exact sat_i32 _ | exact crs_i32 _ _ _ _ _ | exact axv_i32 _ _ | exact clampv_i32 _ _ (by assumption) | exact i32_of (by omega) (by omega)) (by first | assumption | exact sat_i32 _ | exact crs_i32 _ _ _ _ _ | exact axv_i32 _ _ | exact clampv_i32 _ _ (by assumption) | exact i32_of (by omega) (by omega))) ?_; conv => whnf) | (refine lcall_ret (fun w' hl => vscale_S _ _ _ _ _ w' (by first | assumption | exact sat_i32 _ | exact crs_i32 _ _ _ _ _ | exact axv_i32 _ _ | exact clampv_i32 _ _ (by assumption) | exact i32_of (by omega) (by omega)) (by first | assumption | exact sat_i32 _ | exact crs_i32 _ _ _ _ _ | exact axv_i32 _ _ | exact clampv_i32 _ _ (by assumption) | exact i32_of (by omega) (by omega)) (by first | assumption | exact sat_i32 _ | exact crs_i32 _ _ _ _ _ | exact axv_i32 _ _ | exact clampv_i32 _ _ (by assumption) | exact i32_of (by omega) (by omega)) (by first | assumption | exact sat_i32 _ | exact crs_i32 _ _ _ _ _ | exact axv_i32 _ _ | exact clampv_i32 _ _ (by assumption) | exact i32_of (by omega) (by omega))) ?_; conv => whnf) | (refine lcall_ret (fun w' hl => vclamp_S _ _ _ _ w' (by first | assumption | exact sat_i32 _ | exact crs_i32 _ _ _ _ _ | exact axv_i32 _ _ | exact clampv_i32 _ _ (by assumption) | exact i32_of (by omega) (by omega)) (by first | assumption | exact sat_i32 _ | exact crs_i32 _ _ _ _ _ | exact axv_i32 _ _ | exact clampv_i32 _ _ (by assumption) | exact i32_of (by omega) (by omega)) (by first | assumption | exact sat_i32 _ | exact crs_i32 _ _ _ _ _ | exact axv_i32 _ _ | exact clampv_i32 _ _ (by assumption) | exact i32_of (by omega) (by omega)) (by first | assumption | exact sat_i32 _ | exact crs_i32 _ _ _ _ _ | exact axv_i32 _ _ | exact clampv_i32 _ _ (by assumption) | exact i32_of (by omega) (by omega))) ?_; conv => whnf) | (refine lcall_ret (fun w' hl => vcross_S _ _ _ _ _ _ _ w' (by first | assumption | exact sat_i32 _ | exact crs_i32 _ _ _ _ _ | exact axv_i32 _ _ | exact clampv_i32 _ _ (by assumption) | exact i32_of (by omega) (by omega)) (by first | assumption | exact sat_i32 _ | exact crs_i32 _ _ _ _ _ | exact axv_i32 _ _ | exact clampv_i32 _ _ (by assumption) | exact i32_of (by omega) (by omega)) (by first | assumption | exact sat_i32 _ | exact crs_i32 _ _ _ _ _ | exact axv_i32 _ _ | exact clampv_i32 _ _ (by assumption) | exact i32_of (by omega) (by omega)) (by first | assumption | exact sat_i32 _ | exact crs_i32 _ _ _ _ _ | exact axv_i32 _ _ | exact clampv_i32 _ _ (by assumption) | exact i32_of (by omega) (by omega)) (by first | assumption | exact sat_i32 _ | exact crs_i32 _ _ _ _ _ | exact axv_i32 _ _ | exact clampv_i32 _ _ (by assumption) | exact i32_of (by omega) (by omega)) (by first | assumption | exact sat_i32 _ | exact crs_i32 _ _ _ _ _ | exact axv_i32 _ _ | exact clampv_i32 _ _ (by assumption) | exact i32_of (by omega) (by omega))) ?_; conv => whnf) | (refine lcall_ret (fun w' hl => vdot_S _ _ _ _ _ _ w' (by first | assumption | exact sat_i32 _ | exact crs_i32 _ _ _ _ _ | exact axv_i32 _ _ | exact clampv_i32 _ _ (by assumption) | exact i32_of (by omega) (by omega)) (by first | assumption | exact sat_i32 _ | exact crs_i32 _ _ _ _ _ | exact axv_i32 _ _ | exact clampv_i32 _ _ (by assumption) | exact i32_of (by omega) (by omega)) (by first | assumption | exact sat_i32 _ | exact crs_i32 _ _ _ _ _ | exact axv_i32 _ _ | exact clampv_i32 _ _ (by assumption) | exact i32_of (by omega) (by omega)) (by first | assumption | exact sat_i32 _ | exact crs_i32 _ _ _ _ _ | exact axv_i32 _ _ | exact clampv_i32 _ _ (by assumption) | exact i32_of (by omega) (by omega)) (by first | assumption | exact sat_i32 _ | exact crs_i32 _ _ _ _ _ | exact axv_i32 _ _ | exact clampv_i32 _ _ (by assumption) | exact i32_of (by omega) (by omega)) (by first | assumption | exact sat_i32 _ | exact crs_i32 _ _ _ _ _ | exact axv_i32 _ _ | exact clampv_i32 _ _ (by assumption) | exact i32_of (by omega) (by omega))) ?_; conv => whnf) | (refine lcall_ret (fun w' hl => vzero_S _ _ _ w') ?_; conv => whnf) | (refine lcall_ret (fun w' hl => vsigns_S _ _ _ _ w' (by first | assumption | exact sat_i32 _ | exact crs_i32 _ _ _ _ _ | exact axv_i32 _ _ | exact clampv_i32 _ _ (by assumption) | exact i32_of (by omega) (by omega)) (by first | assumption | exact sat_i32 _ | exact crs_i32 _ _ _ _ _ | exact axv_i32 _ _ | exact clampv_i32 _ _ (by assumption) | exact i32_of (by omega) (by omega)) (by first | assumption | exact sat_i32 _ | exact crs_i32 _ _ _ _ _ | exact axv_i32 _ _ | exact clampv_i32 _ _ (by assumption) | exact i32_of (by omega) (by omega)) (by first | assumption | exact sat_i32 _ | exact crs_i32 _ _ _ _ _ | exact axv_i32 _ _ | exact clampv_i32 _ _ (by assumption) | exact i32_of (by omega) (by omega))) ?_; conv => whnf) | (refine lcall_ret (fun w' hl => vadd3_B _ _ _ _ _ _ _ _ _ w' (by first | assumption | exact sat_i32 _ | exact crs_i32 _ _ _ _ _ | exact axv_i32 _ _ | exact clampv_i32 _ _ (by assumption) | exact i32_of (by omega) (by omega)) (by first | assumption | exact sat_i32 _ | exact crs_i32 _ _ _ _ _ | exact axv_i32 _ _ | exact clampv_i32 _ _ (by assumption) | exact i32_of (by omega) (by omega)) (by first | assumption | exact sat_i32 _ | exact crs_i32 _ _ _ _ _ | exact axv_i32 _ _ | exact clampv_i32 _ _ (by assumption) | exact i32_of (by omega) (by omega)) (by first | assumption | exact sat_i32 _ | exact crs_i32 _ _ _ _ _ | exact axv_i32 _ _ | exact clampv_i32 _ _ (by assumption) | exact i32_of (by omega) (by omega)) (by first | assumption | exact sat_i32 _ | exact crs_i32 _ _ _ _ _ | exact axv_i32 _ _ | exact clampv_i32 _ _ (by assumption) | exact i32_of (by omega) (by omega)) (by first | assumption | exact sat_i32 _ | exact crs_i32 _ _ _ _ _ | exact axv_i32 _ _ | exact clampv_i32 _ _ (by assumption) | exact i32_of (by omega) (by omega)) (by first | assumption | exact sat_i32 _ | exact crs_i32 _ _ _ _ _ | exact axv_i32 _ _ | exact clampv_i32 _ _ (by assumption) | exact i32_of (by omega) (by omega)) (by first | assumption | exact sat_i32 _ | exact crs_i32 _ _ _ _ _ | exact axv_i32 _ _ | exact clampv_i32 _ _ (by assumption) | exact i32_of (by omega) (by omega)) (by first | assumption | exact sat_i32 _ | exact crs_i32 _ _ _ _ _ | exact axv_i32 _ _ | exact clampv_i32 _ _ (by assumption) | exact i32_of (by omega) (by omega)) _ _ (vrX (vs := [⟨_, _, _⟩, ⟨_, _, _⟩, ⟨_, _, _⟩]) hl (by rfl) (by rfl))) ?_; conv => whnf) | (refine lcall_ret (fun w' hl => vadd2_B _ _ _ _ _ _ w' (by first | assumption | exact sat_i32 _ | exact crs_i32 _ _ _ _ _ | exact axv_i32 _ _ | exact clampv_i32 _ _ (by assumption) | exact i32_of (by omega) (by omega)) (by first | assumption | exact sat_i32 _ | exact crs_i32 _ _ _ _ _ | exact axv_i32 _ _ | exact clampv_i32 _ _ (by assumption) | exact i32_of (by omega) (by omega)) (by first | assumption | exact sat_i32 _ | exact crs_i32 _ _ _ _ _ | exact axv_i32 _ _ | exact clampv_i32 _ _ (by assumption) | exact i32_of (by omega) (by omega)) (by first | assumption | exact sat_i32 _ | exact crs_i32 _ _ _ _ _ | exact axv_i32 _ _ | exact clampv_i32 _ _ (by assumption) | exact i32_of (by omega) (by omega)) (by first | assumption | exact sat_i32 _ | exact crs_i32 _ _ _ _ _ | exact axv_i32 _ _ | exact clampv_i32 _ _ (by assumption) | exact i32_of (by omega) (by omega)) (by first | assumption | exact sat_i32 _ | exact crs_i32 _ _ _ _ _ | exact axv_i32 _ _ | exact clampv_i32 _ _ (by assumption) | exact i32_of (by omega) (by omega)) _ _ (vrX (vs := [⟨_, _, _⟩, ⟨_, _, _⟩]) hl (by rfl) (by rfl))) ?_; conv => whnf) | (refine lcall_ret (fun w' hl => vadd0_S w' _) ?_; conv => whnf) | (refine lcall_ret (fun w' hl => power_S _ w') ?_; conv => whnf) | (refine lcall_ret (fun w' hl => down_S w' _ _ (by omega) hp.1) ?_; conv => whnf) | (refine lcall_ret (fun w' hl => rsat_S w' _) ?_; conv => whnf))
    | (refine lload_id ?_; first
      | (fail)
      | (refine load_old _ (by with_reducible assumption) (by simp; done) ?_; conv => whnf))
    | (refine lixs_id ?_; fail)
    | (refine ex_id ?_; refine ex_z (by (first | (simp only [Int.reduceAdd, Int.reduceSub, Int.reduceMul, Int.reduceNeg, Int.reduceMod, Int.reduceDiv, Int.reduceTMod, Int.reduceTDiv, Int.zero_add, Int.add_zero]; done) | (simp only [Int.reduceAdd, Int.reduceSub, Int.reduceMul, Int.reduceNeg, Int.reduceMod, Int.reduceDiv, Int.reduceTMod, Int.reduceTDiv, Int.zero_add, Int.add_zero]; rfl) | rfl)) ?_; conv => whnf)
    | (refine sh_id ?_; refine sh_z (by omega) (by (first | (simp only [Int.reduceAdd, Int.reduceSub, Int.reduceMul, Int.reduceNeg, Int.reduceMod, Int.reduceDiv, Int.reduceTMod, Int.reduceTDiv, Int.zero_add, Int.add_zero]; done) | (simp only [Int.reduceAdd, Int.reduceSub, Int.reduceMul, Int.reduceNeg, Int.reduceMod, Int.reduceDiv, Int.reduceTMod, Int.reduceTDiv, Int.zero_add, Int.add_zero]; rfl) | rfl)) ?_; conv => whnf)
    | (refine quo_id ?_; first
      | (refine quo_in (by omega) (by (first | (simp only [Int.reduceAdd, Int.reduceSub, Int.reduceMul, Int.reduceNeg, Int.reduceMod, Int.reduceDiv, Int.reduceTMod, Int.reduceTDiv, Int.zero_add, Int.add_zero]; done) | (simp only [Int.reduceAdd, Int.reduceSub, Int.reduceMul, Int.reduceNeg, Int.reduceMod, Int.reduceDiv, Int.reduceTMod, Int.reduceTDiv, Int.zero_add, Int.add_zero]; rfl) | rfl)) (by (dsimp only [inR]; first | decide | omega)) ?_; conv => whnf)
      | (refine quo_t (by omega) (by (dsimp only [inR]; first | decide | omega)) ?_; conv => whnf))
    | (refine rem_id ?_; first
      | (refine rem_in (by omega) (by (first | (simp only [Int.reduceAdd, Int.reduceSub, Int.reduceMul, Int.reduceNeg, Int.reduceMod, Int.reduceDiv, Int.reduceTMod, Int.reduceTDiv, Int.zero_add, Int.add_zero]; done) | (simp only [Int.reduceAdd, Int.reduceSub, Int.reduceMul, Int.reduceNeg, Int.reduceMod, Int.reduceDiv, Int.reduceTMod, Int.reduceTDiv, Int.zero_add, Int.add_zero]; rfl) | rfl)) ?_; conv => whnf)
      | (refine rem_t (by omega) ?_; conv => whnf))
    | (refine app_id ?_; refine app_i (by (first | (simp only [Nat.zero_add, Nat.add_zero, Nat.mul_one, Nat.reduceAdd, Nat.reduceMul, Int.reduceToNat, Int.toNat_natCast, Int.toNat_zero, Int.toNat_one, Nat.zero_mul]; done) | (simp only [Nat.zero_add, Nat.add_zero, Nat.mul_one, Nat.reduceAdd, Nat.reduceMul, Int.reduceToNat, Int.toNat_natCast, Int.toNat_zero, Int.toNat_one, Nat.zero_mul]; rfl) | rfl)) (by (first | (simp only [List.nil_append, List.cons_append, List.append_nil]; done) | (simp only [List.nil_append, List.cons_append, List.append_nil]; rfl) | rfl)) (by omega) (by omega) ?_; intro _ _; conv => whnf)
    | (refine sl_id ?_; fail)
    | (refine eff_id ?_; fail)
    | (refine val_id ?_; fail)
    | (refine x_rnd ?_)
    | (refine x_rnd' ?_)
    | (refine xdrw_id ?_; fail))
  (refine fin_ret ?_)
  rfl
/-- A part of the torque to the sun. -/
def trq (c kp r kd q m : Int) : Int := clampv (sat (sat (c * kp / 2 ^ pt q) - sat (r * kd / 2 ^ pt q))) (-pos m) (pos m)
theorem sun_S (s0 s1 s2 r0 r1 r2 ax kp kd q m : Int) (w : World) (hs0 : I32 s0) (hs1 : I32 s1) (hs2 : I32 s2) (hr0 : I32 r0) (hr1 : I32 r1) (hr2 : I32 r2) (hkp : I32 kp) (hkd : I32 kd) (hm : I32 m) :
    RetS Try.prog 24 [v3 s0 s1 s2, v3 r0 r1 r2, i64 ax, i32 kp, i32 kd, i64 q, i32 m] w
      (v3 (trq (crs (axv ax 1) (axv ax 2) s1 s2 10) kp r0 kd q m) (trq (crs (axv ax 2) (axv ax 0) s2 s0 10) kp r1 kd q m) (trq (crs (axv ax 0) (axv ax 1) s0 s1 10) kp r2 kd q m)) := by
  refine ret_x tab_ok Try.func24 rfl Try.ntmps24 (by rfl) ?_; simp only [argX, Nat.reduceAdd, Nat.zero_add]; conv => whnf
  repeat' (first
    | (fail)
    | (refine run_c tab_ok ?_; conv => whnf)
    | (refine side_id ?_; refine side_i (by first | rfl | exact ⟨rfl, rfl, rfl, rfl⟩ | trivial | (simp [allOne, partsOne, Value.cells, Value.oneCell']; done) | fail) ?_; conv => whnf)
    | (refine ar_id ?_; refine ar_in (by (first | (simp only [Int.reduceAdd, Int.reduceSub, Int.reduceMul, Int.reduceNeg, Int.reduceMod, Int.reduceDiv, Int.reduceTMod, Int.reduceTDiv, Int.zero_add, Int.add_zero]; done) | (simp only [Int.reduceAdd, Int.reduceSub, Int.reduceMul, Int.reduceNeg, Int.reduceMod, Int.reduceDiv, Int.reduceTMod, Int.reduceTDiv, Int.zero_add, Int.add_zero]; rfl) | rfl)) (by (dsimp only [inR]; first | decide | omega)) ?_; conv => whnf)
    | (refine new_i ?_; intro _; conv => whnf)
    | (refine br_id ?_; first
      | (refine br_t (by first | decide | omega | (with_reducible rfl) | fail | (simp only [cellEq, toB]; omega) | (simp only [cellEq, toB]; simp; done) | fail) ?_; conv => whnf)
      | (refine br_f (by first | decide | omega | (with_reducible exact Bool.false_ne_true) | (with_reducible refine not_not_intro ?_; fail) | (simp only [cellEq, toB]; omega) | (simp only [cellEq, toB]; simp; done) | fail) ?_; conv => whnf)
      | ((refine br_any (fun h => ?_) (fun h => ?_) <;> (try simp only [cellEq, toB, Bool.not_eq_true, Bool.not_eq_false] at h) <;> (try (exfalso; first | omega | contradiction | (simp at h; done) | fail); done) <;> conv => whnf)))
    | (refine ix_id ?_; first
      | (refine ix_lit (by first | decide | omega) (by (first | (simp only [Nat.zero_add, Nat.add_zero, Nat.mul_one, Nat.reduceAdd, Nat.reduceMul, Int.reduceToNat, Int.toNat_natCast, Int.toNat_zero, Int.toNat_one, Nat.zero_mul]; done) | (simp only [Nat.zero_add, Nat.add_zero, Nat.mul_one, Nat.reduceAdd, Nat.reduceMul, Int.reduceToNat, Int.toNat_natCast, Int.toNat_zero, Int.toNat_one, Nat.zero_mul]; rfl) | rfl)) (by rfl) ?_; conv => whnf)
      | (refine ix_sym (by omega) ?_; conv => whnf))
    | (refine lcall_id ?_; first | (refine lcall_ret (fun w' hl => axis_S _ w') ?_; conv => whnf) | (refine lcall_ret (fun w' hl => vsub_S _ _ _ _ _ _ w' (by first | assumption | exact sat_i32 _ | exact crs_i32 _ _ _ _ _ | exact axv_i32 _ _ | exact clampv_i32 _ _ (by assumption) | exact i32_of (by omega) (by omega)) (by first | assumption | exact sat_i32 _ | exact crs_i32 _ _ _ _ _ | exact axv_i32 _ _ | exact clampv_i32 _ _ (by assumption) | exact i32_of (by omega) (by omega)) (by first | assumption | exact sat_i32 _ | exact crs_i32 _ _ _ _ _ | exact axv_i32 _ _ | exact clampv_i32 _ _ (by assumption) | exact i32_of (by omega) (by omega)) (by first | assumption | exact sat_i32 _ | exact crs_i32 _ _ _ _ _ | exact axv_i32 _ _ | exact clampv_i32 _ _ (by assumption) | exact i32_of (by omega) (by omega)) (by first | assumption | exact sat_i32 _ | exact crs_i32 _ _ _ _ _ | exact axv_i32 _ _ | exact clampv_i32 _ _ (by assumption) | exact i32_of (by omega) (by omega)) (by first | assumption | exact sat_i32 _ | exact crs_i32 _ _ _ _ _ | exact axv_i32 _ _ | exact clampv_i32 _ _ (by assumption) | exact i32_of (by omega) (by omega))) ?_; conv => whnf) | (refine lcall_ret (fun w' hl => vneg_S _ _ _ w' (by first | assumption | exact sat_i32 _ | exact crs_i32 _ _ _ _ _ | exact axv_i32 _ _ | exact clampv_i32 _ _ (by assumption) | exact i32_of (by omega) (by omega)) (by first | assumption | exact sat_i32 _ | exact crs_i32 _ _ _ _ _ | exact axv_i32 _ _ | exact clampv_i32 _ _ (by assumption) | exact i32_of (by omega) (by omega)) (by first | assumption | exact sat_i32 _ | exact crs_i32 _ _ _ _ _ | exact axv_i32 _ _ | exact clampv_i32 _ _ (by assumption) | exact i32_of (by omega) (by omega))) ?_; conv => whnf) | (refine lcall_ret (fun w' hl => vscale_S _ _ _ _ _ w' (by first | assumption | exact sat_i32 _ | exact crs_i32 _ _ _ _ _ | exact axv_i32 _ _ | exact clampv_i32 _ _ (by assumption) | exact i32_of (by omega) (by omega)) (by first | assumption | exact sat_i32 _ | exact crs_i32 _ _ _ _ _ | exact axv_i32 _ _ | exact clampv_i32 _ _ (by assumption) | exact i32_of (by omega) (by omega)) (by first | assumption | exact sat_i32 _ | exact crs_i32 _ _ _ _ _ | exact axv_i32 _ _ | exact clampv_i32 _ _ (by assumption) | exact i32_of (by omega) (by omega)) (by first | assumption | exact sat_i32 _ | exact crs_i32 _ _ _ _ _ | exact axv_i32 _ _ | exact clampv_i32 _ _ (by assumption) | exact i32_of (by omega) (by omega))) ?_; conv => whnf) | (refine lcall_ret (fun w' hl => vclamp_S _ _ _ _ w' (by first | assumption | exact sat_i32 _ | exact crs_i32 _ _ _ _ _ | exact axv_i32 _ _ | exact clampv_i32 _ _ (by assumption) | exact i32_of (by omega) (by omega)) (by first | assumption | exact sat_i32 _ | exact crs_i32 _ _ _ _ _ | exact axv_i32 _ _ | exact clampv_i32 _ _ (by assumption) | exact i32_of (by omega) (by omega)) (by first | assumption | exact sat_i32 _ | exact crs_i32 _ _ _ _ _ | exact axv_i32 _ _ | exact clampv_i32 _ _ (by assumption) | exact i32_of (by omega) (by omega)) (by first | assumption | exact sat_i32 _ | exact crs_i32 _ _ _ _ _ | exact axv_i32 _ _ | exact clampv_i32 _ _ (by assumption) | exact i32_of (by omega) (by omega))) ?_; conv => whnf) | (refine lcall_ret (fun w' hl => vcross_S _ _ _ _ _ _ _ w' (by first | assumption | exact sat_i32 _ | exact crs_i32 _ _ _ _ _ | exact axv_i32 _ _ | exact clampv_i32 _ _ (by assumption) | exact i32_of (by omega) (by omega)) (by first | assumption | exact sat_i32 _ | exact crs_i32 _ _ _ _ _ | exact axv_i32 _ _ | exact clampv_i32 _ _ (by assumption) | exact i32_of (by omega) (by omega)) (by first | assumption | exact sat_i32 _ | exact crs_i32 _ _ _ _ _ | exact axv_i32 _ _ | exact clampv_i32 _ _ (by assumption) | exact i32_of (by omega) (by omega)) (by first | assumption | exact sat_i32 _ | exact crs_i32 _ _ _ _ _ | exact axv_i32 _ _ | exact clampv_i32 _ _ (by assumption) | exact i32_of (by omega) (by omega)) (by first | assumption | exact sat_i32 _ | exact crs_i32 _ _ _ _ _ | exact axv_i32 _ _ | exact clampv_i32 _ _ (by assumption) | exact i32_of (by omega) (by omega)) (by first | assumption | exact sat_i32 _ | exact crs_i32 _ _ _ _ _ | exact axv_i32 _ _ | exact clampv_i32 _ _ (by assumption) | exact i32_of (by omega) (by omega))) ?_; conv => whnf) | (refine lcall_ret (fun w' hl => vdot_S _ _ _ _ _ _ w' (by first | assumption | exact sat_i32 _ | exact crs_i32 _ _ _ _ _ | exact axv_i32 _ _ | exact clampv_i32 _ _ (by assumption) | exact i32_of (by omega) (by omega)) (by first | assumption | exact sat_i32 _ | exact crs_i32 _ _ _ _ _ | exact axv_i32 _ _ | exact clampv_i32 _ _ (by assumption) | exact i32_of (by omega) (by omega)) (by first | assumption | exact sat_i32 _ | exact crs_i32 _ _ _ _ _ | exact axv_i32 _ _ | exact clampv_i32 _ _ (by assumption) | exact i32_of (by omega) (by omega)) (by first | assumption | exact sat_i32 _ | exact crs_i32 _ _ _ _ _ | exact axv_i32 _ _ | exact clampv_i32 _ _ (by assumption) | exact i32_of (by omega) (by omega)) (by first | assumption | exact sat_i32 _ | exact crs_i32 _ _ _ _ _ | exact axv_i32 _ _ | exact clampv_i32 _ _ (by assumption) | exact i32_of (by omega) (by omega)) (by first | assumption | exact sat_i32 _ | exact crs_i32 _ _ _ _ _ | exact axv_i32 _ _ | exact clampv_i32 _ _ (by assumption) | exact i32_of (by omega) (by omega))) ?_; conv => whnf) | (refine lcall_ret (fun w' hl => vzero_S _ _ _ w') ?_; conv => whnf) | (refine lcall_ret (fun w' hl => vsigns_S _ _ _ _ w' (by first | assumption | exact sat_i32 _ | exact crs_i32 _ _ _ _ _ | exact axv_i32 _ _ | exact clampv_i32 _ _ (by assumption) | exact i32_of (by omega) (by omega)) (by first | assumption | exact sat_i32 _ | exact crs_i32 _ _ _ _ _ | exact axv_i32 _ _ | exact clampv_i32 _ _ (by assumption) | exact i32_of (by omega) (by omega)) (by first | assumption | exact sat_i32 _ | exact crs_i32 _ _ _ _ _ | exact axv_i32 _ _ | exact clampv_i32 _ _ (by assumption) | exact i32_of (by omega) (by omega)) (by first | assumption | exact sat_i32 _ | exact crs_i32 _ _ _ _ _ | exact axv_i32 _ _ | exact clampv_i32 _ _ (by assumption) | exact i32_of (by omega) (by omega))) ?_; conv => whnf) | (refine lcall_ret (fun w' hl => vadd3_B _ _ _ _ _ _ _ _ _ w' (by first | assumption | exact sat_i32 _ | exact crs_i32 _ _ _ _ _ | exact axv_i32 _ _ | exact clampv_i32 _ _ (by assumption) | exact i32_of (by omega) (by omega)) (by first | assumption | exact sat_i32 _ | exact crs_i32 _ _ _ _ _ | exact axv_i32 _ _ | exact clampv_i32 _ _ (by assumption) | exact i32_of (by omega) (by omega)) (by first | assumption | exact sat_i32 _ | exact crs_i32 _ _ _ _ _ | exact axv_i32 _ _ | exact clampv_i32 _ _ (by assumption) | exact i32_of (by omega) (by omega)) (by first | assumption | exact sat_i32 _ | exact crs_i32 _ _ _ _ _ | exact axv_i32 _ _ | exact clampv_i32 _ _ (by assumption) | exact i32_of (by omega) (by omega)) (by first | assumption | exact sat_i32 _ | exact crs_i32 _ _ _ _ _ | exact axv_i32 _ _ | exact clampv_i32 _ _ (by assumption) | exact i32_of (by omega) (by omega)) (by first | assumption | exact sat_i32 _ | exact crs_i32 _ _ _ _ _ | exact axv_i32 _ _ | exact clampv_i32 _ _ (by assumption) | exact i32_of (by omega) (by omega)) (by first | assumption | exact sat_i32 _ | exact crs_i32 _ _ _ _ _ | exact axv_i32 _ _ | exact clampv_i32 _ _ (by assumption) | exact i32_of (by omega) (by omega)) (by first | assumption | exact sat_i32 _ | exact crs_i32 _ _ _ _ _ | exact axv_i32 _ _ | exact clampv_i32 _ _ (by assumption) | exact i32_of (by omega) (by omega)) (by first | assumption | exact sat_i32 _ | exact crs_i32 _ _ _ _ _ | exact axv_i32 _ _ | exact clampv_i32 _ _ (by assumption) | exact i32_of (by omega) (by omega)) _ _ (vrX (vs := [⟨_, _, _⟩, ⟨_, _, _⟩, ⟨_, _, _⟩]) hl (by rfl) (by rfl))) ?_; conv => whnf) | (refine lcall_ret (fun w' hl => vadd2_B _ _ _ _ _ _ w' (by first | assumption | exact sat_i32 _ | exact crs_i32 _ _ _ _ _ | exact axv_i32 _ _ | exact clampv_i32 _ _ (by assumption) | exact i32_of (by omega) (by omega)) (by first | assumption | exact sat_i32 _ | exact crs_i32 _ _ _ _ _ | exact axv_i32 _ _ | exact clampv_i32 _ _ (by assumption) | exact i32_of (by omega) (by omega)) (by first | assumption | exact sat_i32 _ | exact crs_i32 _ _ _ _ _ | exact axv_i32 _ _ | exact clampv_i32 _ _ (by assumption) | exact i32_of (by omega) (by omega)) (by first | assumption | exact sat_i32 _ | exact crs_i32 _ _ _ _ _ | exact axv_i32 _ _ | exact clampv_i32 _ _ (by assumption) | exact i32_of (by omega) (by omega)) (by first | assumption | exact sat_i32 _ | exact crs_i32 _ _ _ _ _ | exact axv_i32 _ _ | exact clampv_i32 _ _ (by assumption) | exact i32_of (by omega) (by omega)) (by first | assumption | exact sat_i32 _ | exact crs_i32 _ _ _ _ _ | exact axv_i32 _ _ | exact clampv_i32 _ _ (by assumption) | exact i32_of (by omega) (by omega)) _ _ (vrX (vs := [⟨_, _, _⟩, ⟨_, _, _⟩]) hl (by rfl) (by rfl))) ?_; conv => whnf) | (refine lcall_ret (fun w' hl => vadd0_S w' _) ?_; conv => whnf) | (refine lcall_ret (fun w' hl => power_S _ w') ?_; conv => whnf) | (refine lcall_ret (fun w' hl => down_S w' _ _ (by omega) hp.1) ?_; conv => whnf) | (refine lcall_ret (fun w' hl => rsat_S w' _) ?_; conv => whnf))
    | (refine lload_id ?_; first
      | (fail)
      | (refine load_old _ (by with_reducible assumption) (by simp; done) ?_; conv => whnf))
    | (refine lixs_id ?_; fail)
    | (refine ex_id ?_; refine ex_z (by (first | (simp only [Int.reduceAdd, Int.reduceSub, Int.reduceMul, Int.reduceNeg, Int.reduceMod, Int.reduceDiv, Int.reduceTMod, Int.reduceTDiv, Int.zero_add, Int.add_zero]; done) | (simp only [Int.reduceAdd, Int.reduceSub, Int.reduceMul, Int.reduceNeg, Int.reduceMod, Int.reduceDiv, Int.reduceTMod, Int.reduceTDiv, Int.zero_add, Int.add_zero]; rfl) | rfl)) ?_; conv => whnf)
    | (refine sh_id ?_; refine sh_z (by omega) (by (first | (simp only [Int.reduceAdd, Int.reduceSub, Int.reduceMul, Int.reduceNeg, Int.reduceMod, Int.reduceDiv, Int.reduceTMod, Int.reduceTDiv, Int.zero_add, Int.add_zero]; done) | (simp only [Int.reduceAdd, Int.reduceSub, Int.reduceMul, Int.reduceNeg, Int.reduceMod, Int.reduceDiv, Int.reduceTMod, Int.reduceTDiv, Int.zero_add, Int.add_zero]; rfl) | rfl)) ?_; conv => whnf)
    | (refine quo_id ?_; first
      | (refine quo_in (by omega) (by (first | (simp only [Int.reduceAdd, Int.reduceSub, Int.reduceMul, Int.reduceNeg, Int.reduceMod, Int.reduceDiv, Int.reduceTMod, Int.reduceTDiv, Int.zero_add, Int.add_zero]; done) | (simp only [Int.reduceAdd, Int.reduceSub, Int.reduceMul, Int.reduceNeg, Int.reduceMod, Int.reduceDiv, Int.reduceTMod, Int.reduceTDiv, Int.zero_add, Int.add_zero]; rfl) | rfl)) (by (dsimp only [inR]; first | decide | omega)) ?_; conv => whnf)
      | (refine quo_t (by omega) (by (dsimp only [inR]; first | decide | omega)) ?_; conv => whnf))
    | (refine rem_id ?_; first
      | (refine rem_in (by omega) (by (first | (simp only [Int.reduceAdd, Int.reduceSub, Int.reduceMul, Int.reduceNeg, Int.reduceMod, Int.reduceDiv, Int.reduceTMod, Int.reduceTDiv, Int.zero_add, Int.add_zero]; done) | (simp only [Int.reduceAdd, Int.reduceSub, Int.reduceMul, Int.reduceNeg, Int.reduceMod, Int.reduceDiv, Int.reduceTMod, Int.reduceTDiv, Int.zero_add, Int.add_zero]; rfl) | rfl)) ?_; conv => whnf)
      | (refine rem_t (by omega) ?_; conv => whnf))
    | (refine app_id ?_; refine app_i (by (first | (simp only [Nat.zero_add, Nat.add_zero, Nat.mul_one, Nat.reduceAdd, Nat.reduceMul, Int.reduceToNat, Int.toNat_natCast, Int.toNat_zero, Int.toNat_one, Nat.zero_mul]; done) | (simp only [Nat.zero_add, Nat.add_zero, Nat.mul_one, Nat.reduceAdd, Nat.reduceMul, Int.reduceToNat, Int.toNat_natCast, Int.toNat_zero, Int.toNat_one, Nat.zero_mul]; rfl) | rfl)) (by (first | (simp only [List.nil_append, List.cons_append, List.append_nil]; done) | (simp only [List.nil_append, List.cons_append, List.append_nil]; rfl) | rfl)) (by omega) (by omega) ?_; intro _ _; conv => whnf)
    | (refine sl_id ?_; fail)
    | (refine eff_id ?_; fail)
    | (refine val_id ?_; fail)
    | (refine x_rnd ?_)
    | (refine x_rnd' ?_)
    | (refine xdrw_id ?_; first | (refine x_drw tab_ok (id := 1) [] [] [0, 1, 2, 3, 4, 5, 6, 7, 8] followsMixed (by kernel_rfl) (by rfl) (by rfl) ?_; conv => whnf) | (refine x_drw tab_ok (id := 2) [] [14] [0, 1, 2, 3, 4, 5, 6, 7, 8] followsMixed (by kernel_rfl) (by rfl) (by rfl) ?_; conv => whnf)))
  (refine fin_ret ?_)
  rfl

theorem times_S (a k q : Int) (w : World) (ha : I32 a) (hk : I32 k) : RetS Try.prog 35 [i64 a, i64 k, i64 q] w (i64 (sat (a * k / 2 ^ pt q))) := by
  have hm := mul_bd a k ha hk
  have hp := pow_bd q
  have hs := sat_i32 (a * k / 2 ^ pt q)
  unfold I32 at ha hk hs
  refine ret_x tab_ok Try.func35 rfl Try.ntmps35 (by rfl) ?_; simp only [argX, Nat.reduceAdd, Nat.zero_add]; conv => whnf
  repeat' (first
    | (fail)
    | (refine run_c tab_ok ?_; conv => whnf)
    | (refine side_id ?_; refine side_i (by first | rfl | exact ⟨rfl, rfl, rfl, rfl⟩ | trivial | (simp [allOne, partsOne, Value.cells, Value.oneCell']; done) | fail) ?_; conv => whnf)
    | (refine ar_id ?_; refine ar_in (by (first | (simp only [Int.reduceAdd, Int.reduceSub, Int.reduceMul, Int.reduceNeg, Int.reduceMod, Int.reduceDiv, Int.reduceTMod, Int.reduceTDiv, Int.zero_add, Int.add_zero]; done) | (simp only [Int.reduceAdd, Int.reduceSub, Int.reduceMul, Int.reduceNeg, Int.reduceMod, Int.reduceDiv, Int.reduceTMod, Int.reduceTDiv, Int.zero_add, Int.add_zero]; rfl) | rfl)) (by (dsimp only [inR]; first | decide | omega)) ?_; conv => whnf)
    | (refine new_i ?_; intro _; conv => whnf)
    | (refine br_id ?_; first
      | (refine br_t (by first | decide | omega | (with_reducible rfl) | fail | (simp only [cellEq, toB]; omega) | (simp only [cellEq, toB]; simp; done) | fail) ?_; conv => whnf)
      | (refine br_f (by first | decide | omega | (with_reducible exact Bool.false_ne_true) | (with_reducible refine not_not_intro ?_; fail) | (simp only [cellEq, toB]; omega) | (simp only [cellEq, toB]; simp; done) | fail) ?_; conv => whnf)
      | ((refine br_any (fun h => ?_) (fun h => ?_) <;> (try simp only [cellEq, toB, Bool.not_eq_true, Bool.not_eq_false] at h) <;> (try (exfalso; first | omega | contradiction | (simp at h; done) | fail); done) <;> conv => whnf)))
    | (refine ix_id ?_; first
      | (refine ix_lit (by first | decide | omega) (by (first | (simp only [Nat.zero_add, Nat.add_zero, Nat.mul_one, Nat.reduceAdd, Nat.reduceMul, Int.reduceToNat, Int.toNat_natCast, Int.toNat_zero, Int.toNat_one, Nat.zero_mul]; done) | (simp only [Nat.zero_add, Nat.add_zero, Nat.mul_one, Nat.reduceAdd, Nat.reduceMul, Int.reduceToNat, Int.toNat_natCast, Int.toNat_zero, Int.toNat_one, Nat.zero_mul]; rfl) | rfl)) (by rfl) ?_; conv => whnf)
      | (refine ix_sym (by omega) ?_; conv => whnf))
    | (refine lcall_id ?_; first | (refine lcall_ret (fun w' hl => power_S _ w') ?_; conv => whnf) | (refine lcall_ret (fun w' hl => down_S w' _ _ (by omega) hp.1) ?_; conv => whnf) | (refine lcall_ret (fun w' hl => rsat_S w' _) ?_; conv => whnf))
    | (refine lload_id ?_; first
      | (fail)
      | (refine load_old _ (by with_reducible assumption) (by simp; done) ?_; conv => whnf))
    | (refine lixs_id ?_; fail)
    | (refine ex_id ?_; refine ex_z (by (first | (simp only [Int.reduceAdd, Int.reduceSub, Int.reduceMul, Int.reduceNeg, Int.reduceMod, Int.reduceDiv, Int.reduceTMod, Int.reduceTDiv, Int.zero_add, Int.add_zero]; done) | (simp only [Int.reduceAdd, Int.reduceSub, Int.reduceMul, Int.reduceNeg, Int.reduceMod, Int.reduceDiv, Int.reduceTMod, Int.reduceTDiv, Int.zero_add, Int.add_zero]; rfl) | rfl)) ?_; conv => whnf)
    | (refine sh_id ?_; refine sh_z (by omega) (by (first | (simp only [Int.reduceAdd, Int.reduceSub, Int.reduceMul, Int.reduceNeg, Int.reduceMod, Int.reduceDiv, Int.reduceTMod, Int.reduceTDiv, Int.zero_add, Int.add_zero]; done) | (simp only [Int.reduceAdd, Int.reduceSub, Int.reduceMul, Int.reduceNeg, Int.reduceMod, Int.reduceDiv, Int.reduceTMod, Int.reduceTDiv, Int.zero_add, Int.add_zero]; rfl) | rfl)) ?_; conv => whnf)
    | (refine quo_id ?_; first
      | (refine quo_in (by omega) (by (first | (simp only [Int.reduceAdd, Int.reduceSub, Int.reduceMul, Int.reduceNeg, Int.reduceMod, Int.reduceDiv, Int.reduceTMod, Int.reduceTDiv, Int.zero_add, Int.add_zero]; done) | (simp only [Int.reduceAdd, Int.reduceSub, Int.reduceMul, Int.reduceNeg, Int.reduceMod, Int.reduceDiv, Int.reduceTMod, Int.reduceTDiv, Int.zero_add, Int.add_zero]; rfl) | rfl)) (by (dsimp only [inR]; first | decide | omega)) ?_; conv => whnf)
      | (refine quo_t (by omega) (by (dsimp only [inR]; first | decide | omega)) ?_; conv => whnf))
    | (refine rem_id ?_; first
      | (refine rem_in (by omega) (by (first | (simp only [Int.reduceAdd, Int.reduceSub, Int.reduceMul, Int.reduceNeg, Int.reduceMod, Int.reduceDiv, Int.reduceTMod, Int.reduceTDiv, Int.zero_add, Int.add_zero]; done) | (simp only [Int.reduceAdd, Int.reduceSub, Int.reduceMul, Int.reduceNeg, Int.reduceMod, Int.reduceDiv, Int.reduceTMod, Int.reduceTDiv, Int.zero_add, Int.add_zero]; rfl) | rfl)) ?_; conv => whnf)
      | (refine rem_t (by omega) ?_; conv => whnf))
    | (refine app_id ?_; refine app_i (by (first | (simp only [Nat.zero_add, Nat.add_zero, Nat.mul_one, Nat.reduceAdd, Nat.reduceMul, Int.reduceToNat, Int.toNat_natCast, Int.toNat_zero, Int.toNat_one, Nat.zero_mul]; done) | (simp only [Nat.zero_add, Nat.add_zero, Nat.mul_one, Nat.reduceAdd, Nat.reduceMul, Int.reduceToNat, Int.toNat_natCast, Int.toNat_zero, Int.toNat_one, Nat.zero_mul]; rfl) | rfl)) (by (first | (simp only [List.nil_append, List.cons_append, List.append_nil]; done) | (simp only [List.nil_append, List.cons_append, List.append_nil]; rfl) | rfl)) (by omega) (by omega) ?_; intro _ _; conv => whnf)
    | (refine sl_id ?_; fail)
    | (refine eff_id ?_; fail)
    | (refine val_id ?_; fail)
    | (refine x_rnd ?_)
    | (refine x_rnd' ?_)
    | (refine xdrw_id ?_; fail))
  (refine fin_ret ?_)
  rfl
theorem clamp0 (n m : Int) (h : m < 0) : clampv n (-pos m) (pos m) = 0 := by
  unfold clampv pos
  split
  · omega
  · split <;> omega
theorem clampH (n m : Int) (h : ¬ m < 0) (h2 : m < n) : clampv n (-pos m) (pos m) = m := by
  unfold clampv pos
  split
  · omega
  · split <;> omega
theorem clampL (n m : Int) (h : ¬ m < 0) (h2 : n < -m) : clampv n (-pos m) (pos m) = -m := by
  unfold clampv pos
  split
  · omega
  · split <;> omega
theorem clampM (n m : Int) (h : ¬ m < 0) (h1 : ¬ m < n) (h2 : ¬ n < -m) : clampv n (-pos m) (pos m) = n := by
  unfold clampv pos
  split
  · omega
  · split <;> omega
set_option maxHeartbeats 2000000 in
theorem rclamp_S (n m : Int) (w : World) (hm : I32 m) (hn : -9223372036854775808 ≤ n ∧ n ≤ 9223372036854775807) : RetS Try.prog 34 [i64 n, i32 m] w (i32 (clampv n (-pos m) (pos m))) := by
  unfold I32 at hm
  by_cases c1 : m < 0
  · rw [clamp0 n m c1]
    by_cases c2 : 0 < n
    · skip
      refine ret_x tab_ok Try.func34 rfl Try.ntmps34 (by rfl) ?_; simp only [argX, Nat.reduceAdd, Nat.zero_add]; conv => whnf
      repeat' (first
        | (fail)
        | (refine run_c tab_ok ?_; conv => whnf)
        | (refine side_id ?_; refine side_i (by first | rfl | exact ⟨rfl, rfl, rfl, rfl⟩ | trivial | (simp [allOne, partsOne, Value.cells, Value.oneCell']; done) | fail) ?_; conv => whnf)
        | (refine ar_id ?_; refine ar_in (by (first | (simp only [Int.reduceAdd, Int.reduceSub, Int.reduceMul, Int.reduceNeg, Int.reduceMod, Int.reduceDiv, Int.reduceTMod, Int.reduceTDiv, Int.zero_add, Int.add_zero]; done) | (simp only [Int.reduceAdd, Int.reduceSub, Int.reduceMul, Int.reduceNeg, Int.reduceMod, Int.reduceDiv, Int.reduceTMod, Int.reduceTDiv, Int.zero_add, Int.add_zero]; rfl) | rfl)) (by (dsimp only [inR]; first | decide | omega)) ?_; conv => whnf)
        | (refine new_i ?_; intro _; conv => whnf)
        | (refine br_id ?_; first
          | (refine br_t (by first | decide | omega | grind | fail) ?_; conv => whnf)
          | (refine br_f (by first | decide | omega | (with_reducible exact Bool.false_ne_true) | (with_reducible refine not_not_intro ?_; fail) | (simp only [cellEq, toB]; omega) | (simp only [cellEq, toB]; simp; done) | fail) ?_; conv => whnf)
          | ((refine br_any (fun h => ?_) (fun h => ?_) <;> (try simp only [cellEq, toB, Bool.not_eq_true, Bool.not_eq_false] at h) <;> (try (exfalso; first | omega | contradiction | (simp at h; done) | fail); done) <;> conv => whnf)))
        | (refine ix_id ?_; first
          | (refine ix_lit (by first | decide | omega) (by (first | (simp only [Nat.zero_add, Nat.add_zero, Nat.mul_one, Nat.reduceAdd, Nat.reduceMul, Int.reduceToNat, Int.toNat_natCast, Int.toNat_zero, Int.toNat_one, Nat.zero_mul]; done) | (simp only [Nat.zero_add, Nat.add_zero, Nat.mul_one, Nat.reduceAdd, Nat.reduceMul, Int.reduceToNat, Int.toNat_natCast, Int.toNat_zero, Int.toNat_one, Nat.zero_mul]; rfl) | rfl)) (by rfl) ?_; conv => whnf)
          | (refine ix_sym (by omega) ?_; conv => whnf))
        | (refine lcall_id ?_; first | (refine lcall_ret (fun w' hl => power_S _ w') ?_; conv => whnf) | (refine lcall_ret (fun w' hl => down_S w' _ _ (by omega) hp.1) ?_; conv => whnf) | (refine lcall_ret (fun w' hl => rsat_S w' _) ?_; conv => whnf))
        | (refine lload_id ?_; first
          | (fail)
          | (refine load_old _ (by with_reducible assumption) (by simp; done) ?_; conv => whnf))
        | (refine lixs_id ?_; fail)
        | (refine ex_id ?_; refine ex_z (by (first | (simp only [Int.reduceAdd, Int.reduceSub, Int.reduceMul, Int.reduceNeg, Int.reduceMod, Int.reduceDiv, Int.reduceTMod, Int.reduceTDiv, Int.zero_add, Int.add_zero]; done) | (simp only [Int.reduceAdd, Int.reduceSub, Int.reduceMul, Int.reduceNeg, Int.reduceMod, Int.reduceDiv, Int.reduceTMod, Int.reduceTDiv, Int.zero_add, Int.add_zero]; rfl) | rfl)) ?_; conv => whnf)
        | (refine sh_id ?_; refine sh_z (by omega) (by (first | (simp only [Int.reduceAdd, Int.reduceSub, Int.reduceMul, Int.reduceNeg, Int.reduceMod, Int.reduceDiv, Int.reduceTMod, Int.reduceTDiv, Int.zero_add, Int.add_zero]; done) | (simp only [Int.reduceAdd, Int.reduceSub, Int.reduceMul, Int.reduceNeg, Int.reduceMod, Int.reduceDiv, Int.reduceTMod, Int.reduceTDiv, Int.zero_add, Int.add_zero]; rfl) | rfl)) ?_; conv => whnf)
        | (refine quo_id ?_; first
          | (refine quo_in (by omega) (by (first | (simp only [Int.reduceAdd, Int.reduceSub, Int.reduceMul, Int.reduceNeg, Int.reduceMod, Int.reduceDiv, Int.reduceTMod, Int.reduceTDiv, Int.zero_add, Int.add_zero]; done) | (simp only [Int.reduceAdd, Int.reduceSub, Int.reduceMul, Int.reduceNeg, Int.reduceMod, Int.reduceDiv, Int.reduceTMod, Int.reduceTDiv, Int.zero_add, Int.add_zero]; rfl) | rfl)) (by (dsimp only [inR]; first | decide | omega)) ?_; conv => whnf)
          | (refine quo_t (by omega) (by (dsimp only [inR]; first | decide | omega)) ?_; conv => whnf))
        | (refine rem_id ?_; first
          | (refine rem_in (by omega) (by (first | (simp only [Int.reduceAdd, Int.reduceSub, Int.reduceMul, Int.reduceNeg, Int.reduceMod, Int.reduceDiv, Int.reduceTMod, Int.reduceTDiv, Int.zero_add, Int.add_zero]; done) | (simp only [Int.reduceAdd, Int.reduceSub, Int.reduceMul, Int.reduceNeg, Int.reduceMod, Int.reduceDiv, Int.reduceTMod, Int.reduceTDiv, Int.zero_add, Int.add_zero]; rfl) | rfl)) ?_; conv => whnf)
          | (refine rem_t (by omega) ?_; conv => whnf))
        | (refine app_id ?_; refine app_i (by (first | (simp only [Nat.zero_add, Nat.add_zero, Nat.mul_one, Nat.reduceAdd, Nat.reduceMul, Int.reduceToNat, Int.toNat_natCast, Int.toNat_zero, Int.toNat_one, Nat.zero_mul]; done) | (simp only [Nat.zero_add, Nat.add_zero, Nat.mul_one, Nat.reduceAdd, Nat.reduceMul, Int.reduceToNat, Int.toNat_natCast, Int.toNat_zero, Int.toNat_one, Nat.zero_mul]; rfl) | rfl)) (by (first | (simp only [List.nil_append, List.cons_append, List.append_nil]; done) | (simp only [List.nil_append, List.cons_append, List.append_nil]; rfl) | rfl)) (by omega) (by omega) ?_; intro _ _; conv => whnf)
        | (refine sl_id ?_; fail)
        | (refine eff_id ?_; fail)
        | (refine val_id ?_; fail)
        | (refine x_rnd ?_)
        | (refine x_rnd' ?_)
        | (refine xdrw_id ?_; fail))
      (refine fin_ret ?_)
      first | rfl | omega | (congr 1; omega)
    · by_cases c3 : n < 0
      · skip
        refine ret_x tab_ok Try.func34 rfl Try.ntmps34 (by rfl) ?_; simp only [argX, Nat.reduceAdd, Nat.zero_add]; conv => whnf
        repeat' (first
          | (fail)
          | (refine run_c tab_ok ?_; conv => whnf)
          | (refine side_id ?_; refine side_i (by first | rfl | exact ⟨rfl, rfl, rfl, rfl⟩ | trivial | (simp [allOne, partsOne, Value.cells, Value.oneCell']; done) | fail) ?_; conv => whnf)
          | (refine ar_id ?_; refine ar_in (by (first | (simp only [Int.reduceAdd, Int.reduceSub, Int.reduceMul, Int.reduceNeg, Int.reduceMod, Int.reduceDiv, Int.reduceTMod, Int.reduceTDiv, Int.zero_add, Int.add_zero]; done) | (simp only [Int.reduceAdd, Int.reduceSub, Int.reduceMul, Int.reduceNeg, Int.reduceMod, Int.reduceDiv, Int.reduceTMod, Int.reduceTDiv, Int.zero_add, Int.add_zero]; rfl) | rfl)) (by (dsimp only [inR]; first | decide | omega)) ?_; conv => whnf)
          | (refine new_i ?_; intro _; conv => whnf)
          | (refine br_id ?_; first
            | (refine br_t (by first | decide | omega | grind | fail) ?_; conv => whnf)
            | (refine br_f (by first | decide | omega | (with_reducible exact Bool.false_ne_true) | (with_reducible refine not_not_intro ?_; fail) | (simp only [cellEq, toB]; omega) | (simp only [cellEq, toB]; simp; done) | fail) ?_; conv => whnf)
            | ((refine br_any (fun h => ?_) (fun h => ?_) <;> (try simp only [cellEq, toB, Bool.not_eq_true, Bool.not_eq_false] at h) <;> (try (exfalso; first | omega | contradiction | (simp at h; done) | fail); done) <;> conv => whnf)))
          | (refine ix_id ?_; first
            | (refine ix_lit (by first | decide | omega) (by (first | (simp only [Nat.zero_add, Nat.add_zero, Nat.mul_one, Nat.reduceAdd, Nat.reduceMul, Int.reduceToNat, Int.toNat_natCast, Int.toNat_zero, Int.toNat_one, Nat.zero_mul]; done) | (simp only [Nat.zero_add, Nat.add_zero, Nat.mul_one, Nat.reduceAdd, Nat.reduceMul, Int.reduceToNat, Int.toNat_natCast, Int.toNat_zero, Int.toNat_one, Nat.zero_mul]; rfl) | rfl)) (by rfl) ?_; conv => whnf)
            | (refine ix_sym (by omega) ?_; conv => whnf))
          | (refine lcall_id ?_; first | (refine lcall_ret (fun w' hl => power_S _ w') ?_; conv => whnf) | (refine lcall_ret (fun w' hl => down_S w' _ _ (by omega) hp.1) ?_; conv => whnf) | (refine lcall_ret (fun w' hl => rsat_S w' _) ?_; conv => whnf))
          | (refine lload_id ?_; first
            | (fail)
            | (refine load_old _ (by with_reducible assumption) (by simp; done) ?_; conv => whnf))
          | (refine lixs_id ?_; fail)
          | (refine ex_id ?_; refine ex_z (by (first | (simp only [Int.reduceAdd, Int.reduceSub, Int.reduceMul, Int.reduceNeg, Int.reduceMod, Int.reduceDiv, Int.reduceTMod, Int.reduceTDiv, Int.zero_add, Int.add_zero]; done) | (simp only [Int.reduceAdd, Int.reduceSub, Int.reduceMul, Int.reduceNeg, Int.reduceMod, Int.reduceDiv, Int.reduceTMod, Int.reduceTDiv, Int.zero_add, Int.add_zero]; rfl) | rfl)) ?_; conv => whnf)
          | (refine sh_id ?_; refine sh_z (by omega) (by (first | (simp only [Int.reduceAdd, Int.reduceSub, Int.reduceMul, Int.reduceNeg, Int.reduceMod, Int.reduceDiv, Int.reduceTMod, Int.reduceTDiv, Int.zero_add, Int.add_zero]; done) | (simp only [Int.reduceAdd, Int.reduceSub, Int.reduceMul, Int.reduceNeg, Int.reduceMod, Int.reduceDiv, Int.reduceTMod, Int.reduceTDiv, Int.zero_add, Int.add_zero]; rfl) | rfl)) ?_; conv => whnf)
          | (refine quo_id ?_; first
            | (refine quo_in (by omega) (by (first | (simp only [Int.reduceAdd, Int.reduceSub, Int.reduceMul, Int.reduceNeg, Int.reduceMod, Int.reduceDiv, Int.reduceTMod, Int.reduceTDiv, Int.zero_add, Int.add_zero]; done) | (simp only [Int.reduceAdd, Int.reduceSub, Int.reduceMul, Int.reduceNeg, Int.reduceMod, Int.reduceDiv, Int.reduceTMod, Int.reduceTDiv, Int.zero_add, Int.add_zero]; rfl) | rfl)) (by (dsimp only [inR]; first | decide | omega)) ?_; conv => whnf)
            | (refine quo_t (by omega) (by (dsimp only [inR]; first | decide | omega)) ?_; conv => whnf))
          | (refine rem_id ?_; first
            | (refine rem_in (by omega) (by (first | (simp only [Int.reduceAdd, Int.reduceSub, Int.reduceMul, Int.reduceNeg, Int.reduceMod, Int.reduceDiv, Int.reduceTMod, Int.reduceTDiv, Int.zero_add, Int.add_zero]; done) | (simp only [Int.reduceAdd, Int.reduceSub, Int.reduceMul, Int.reduceNeg, Int.reduceMod, Int.reduceDiv, Int.reduceTMod, Int.reduceTDiv, Int.zero_add, Int.add_zero]; rfl) | rfl)) ?_; conv => whnf)
            | (refine rem_t (by omega) ?_; conv => whnf))
          | (refine app_id ?_; refine app_i (by (first | (simp only [Nat.zero_add, Nat.add_zero, Nat.mul_one, Nat.reduceAdd, Nat.reduceMul, Int.reduceToNat, Int.toNat_natCast, Int.toNat_zero, Int.toNat_one, Nat.zero_mul]; done) | (simp only [Nat.zero_add, Nat.add_zero, Nat.mul_one, Nat.reduceAdd, Nat.reduceMul, Int.reduceToNat, Int.toNat_natCast, Int.toNat_zero, Int.toNat_one, Nat.zero_mul]; rfl) | rfl)) (by (first | (simp only [List.nil_append, List.cons_append, List.append_nil]; done) | (simp only [List.nil_append, List.cons_append, List.append_nil]; rfl) | rfl)) (by omega) (by omega) ?_; intro _ _; conv => whnf)
          | (refine sl_id ?_; fail)
          | (refine eff_id ?_; fail)
          | (refine val_id ?_; fail)
          | (refine x_rnd ?_)
          | (refine x_rnd' ?_)
          | (refine xdrw_id ?_; fail))
        (refine fin_ret ?_)
        first | rfl | omega | (congr 1; omega)
      · obtain rfl : n = 0 := by omega
        refine ret_x tab_ok Try.func34 rfl Try.ntmps34 (by rfl) ?_; simp only [argX, Nat.reduceAdd, Nat.zero_add]; conv => whnf
        repeat' (first
          | (fail)
          | (refine run_c tab_ok ?_; conv => whnf)
          | (refine side_id ?_; refine side_i (by first | rfl | exact ⟨rfl, rfl, rfl, rfl⟩ | trivial | (simp [allOne, partsOne, Value.cells, Value.oneCell']; done) | fail) ?_; conv => whnf)
          | (refine ar_id ?_; refine ar_in (by (first | (simp only [Int.reduceAdd, Int.reduceSub, Int.reduceMul, Int.reduceNeg, Int.reduceMod, Int.reduceDiv, Int.reduceTMod, Int.reduceTDiv, Int.zero_add, Int.add_zero]; done) | (simp only [Int.reduceAdd, Int.reduceSub, Int.reduceMul, Int.reduceNeg, Int.reduceMod, Int.reduceDiv, Int.reduceTMod, Int.reduceTDiv, Int.zero_add, Int.add_zero]; rfl) | rfl)) (by (dsimp only [inR]; first | decide | omega)) ?_; conv => whnf)
          | (refine new_i ?_; intro _; conv => whnf)
          | (refine br_id ?_; first
            | (refine br_t (by first | decide | omega | grind | fail) ?_; conv => whnf)
            | (refine br_f (by first | decide | omega | (with_reducible exact Bool.false_ne_true) | (with_reducible refine not_not_intro ?_; fail) | (simp only [cellEq, toB]; omega) | (simp only [cellEq, toB]; simp; done) | fail) ?_; conv => whnf)
            | ((refine br_any (fun h => ?_) (fun h => ?_) <;> (try simp only [cellEq, toB, Bool.not_eq_true, Bool.not_eq_false] at h) <;> (try (exfalso; first | omega | contradiction | (simp at h; done) | fail); done) <;> conv => whnf)))
          | (refine ix_id ?_; first
            | (refine ix_lit (by first | decide | omega) (by (first | (simp only [Nat.zero_add, Nat.add_zero, Nat.mul_one, Nat.reduceAdd, Nat.reduceMul, Int.reduceToNat, Int.toNat_natCast, Int.toNat_zero, Int.toNat_one, Nat.zero_mul]; done) | (simp only [Nat.zero_add, Nat.add_zero, Nat.mul_one, Nat.reduceAdd, Nat.reduceMul, Int.reduceToNat, Int.toNat_natCast, Int.toNat_zero, Int.toNat_one, Nat.zero_mul]; rfl) | rfl)) (by rfl) ?_; conv => whnf)
            | (refine ix_sym (by omega) ?_; conv => whnf))
          | (refine lcall_id ?_; first | (refine lcall_ret (fun w' hl => power_S _ w') ?_; conv => whnf) | (refine lcall_ret (fun w' hl => down_S w' _ _ (by omega) hp.1) ?_; conv => whnf) | (refine lcall_ret (fun w' hl => rsat_S w' _) ?_; conv => whnf))
          | (refine lload_id ?_; first
            | (fail)
            | (refine load_old _ (by with_reducible assumption) (by simp; done) ?_; conv => whnf))
          | (refine lixs_id ?_; fail)
          | (refine ex_id ?_; refine ex_z (by (first | (simp only [Int.reduceAdd, Int.reduceSub, Int.reduceMul, Int.reduceNeg, Int.reduceMod, Int.reduceDiv, Int.reduceTMod, Int.reduceTDiv, Int.zero_add, Int.add_zero]; done) | (simp only [Int.reduceAdd, Int.reduceSub, Int.reduceMul, Int.reduceNeg, Int.reduceMod, Int.reduceDiv, Int.reduceTMod, Int.reduceTDiv, Int.zero_add, Int.add_zero]; rfl) | rfl)) ?_; conv => whnf)
          | (refine sh_id ?_; refine sh_z (by omega) (by (first | (simp only [Int.reduceAdd, Int.reduceSub, Int.reduceMul, Int.reduceNeg, Int.reduceMod, Int.reduceDiv, Int.reduceTMod, Int.reduceTDiv, Int.zero_add, Int.add_zero]; done) | (simp only [Int.reduceAdd, Int.reduceSub, Int.reduceMul, Int.reduceNeg, Int.reduceMod, Int.reduceDiv, Int.reduceTMod, Int.reduceTDiv, Int.zero_add, Int.add_zero]; rfl) | rfl)) ?_; conv => whnf)
          | (refine quo_id ?_; first
            | (refine quo_in (by omega) (by (first | (simp only [Int.reduceAdd, Int.reduceSub, Int.reduceMul, Int.reduceNeg, Int.reduceMod, Int.reduceDiv, Int.reduceTMod, Int.reduceTDiv, Int.zero_add, Int.add_zero]; done) | (simp only [Int.reduceAdd, Int.reduceSub, Int.reduceMul, Int.reduceNeg, Int.reduceMod, Int.reduceDiv, Int.reduceTMod, Int.reduceTDiv, Int.zero_add, Int.add_zero]; rfl) | rfl)) (by (dsimp only [inR]; first | decide | omega)) ?_; conv => whnf)
            | (refine quo_t (by omega) (by (dsimp only [inR]; first | decide | omega)) ?_; conv => whnf))
          | (refine rem_id ?_; first
            | (refine rem_in (by omega) (by (first | (simp only [Int.reduceAdd, Int.reduceSub, Int.reduceMul, Int.reduceNeg, Int.reduceMod, Int.reduceDiv, Int.reduceTMod, Int.reduceTDiv, Int.zero_add, Int.add_zero]; done) | (simp only [Int.reduceAdd, Int.reduceSub, Int.reduceMul, Int.reduceNeg, Int.reduceMod, Int.reduceDiv, Int.reduceTMod, Int.reduceTDiv, Int.zero_add, Int.add_zero]; rfl) | rfl)) ?_; conv => whnf)
            | (refine rem_t (by omega) ?_; conv => whnf))
          | (refine app_id ?_; refine app_i (by (first | (simp only [Nat.zero_add, Nat.add_zero, Nat.mul_one, Nat.reduceAdd, Nat.reduceMul, Int.reduceToNat, Int.toNat_natCast, Int.toNat_zero, Int.toNat_one, Nat.zero_mul]; done) | (simp only [Nat.zero_add, Nat.add_zero, Nat.mul_one, Nat.reduceAdd, Nat.reduceMul, Int.reduceToNat, Int.toNat_natCast, Int.toNat_zero, Int.toNat_one, Nat.zero_mul]; rfl) | rfl)) (by (first | (simp only [List.nil_append, List.cons_append, List.append_nil]; done) | (simp only [List.nil_append, List.cons_append, List.append_nil]; rfl) | rfl)) (by omega) (by omega) ?_; intro _ _; conv => whnf)
          | (refine sl_id ?_; fail)
          | (refine eff_id ?_; fail)
          | (refine val_id ?_; fail)
          | (refine x_rnd ?_)
          | (refine x_rnd' ?_)
          | (refine xdrw_id ?_; fail))
        (refine fin_ret ?_)
        first | rfl | omega | (congr 1; omega)
  · by_cases c2 : m < n
    · rw [clampH n m c1 c2]
      refine ret_x tab_ok Try.func34 rfl Try.ntmps34 (by rfl) ?_; simp only [argX, Nat.reduceAdd, Nat.zero_add]; conv => whnf
      repeat' (first
        | (fail)
        | (refine run_c tab_ok ?_; conv => whnf)
        | (refine side_id ?_; refine side_i (by first | rfl | exact ⟨rfl, rfl, rfl, rfl⟩ | trivial | (simp [allOne, partsOne, Value.cells, Value.oneCell']; done) | fail) ?_; conv => whnf)
        | (refine ar_id ?_; refine ar_in (by (first | (simp only [Int.reduceAdd, Int.reduceSub, Int.reduceMul, Int.reduceNeg, Int.reduceMod, Int.reduceDiv, Int.reduceTMod, Int.reduceTDiv, Int.zero_add, Int.add_zero]; done) | (simp only [Int.reduceAdd, Int.reduceSub, Int.reduceMul, Int.reduceNeg, Int.reduceMod, Int.reduceDiv, Int.reduceTMod, Int.reduceTDiv, Int.zero_add, Int.add_zero]; rfl) | rfl)) (by (dsimp only [inR]; first | decide | omega)) ?_; conv => whnf)
        | (refine new_i ?_; intro _; conv => whnf)
        | (refine br_id ?_; first
          | (refine br_t (by first | decide | omega | grind | fail) ?_; conv => whnf)
          | (refine br_f (by first | decide | omega | (with_reducible exact Bool.false_ne_true) | (with_reducible refine not_not_intro ?_; fail) | (simp only [cellEq, toB]; omega) | (simp only [cellEq, toB]; simp; done) | fail) ?_; conv => whnf)
          | ((refine br_any (fun h => ?_) (fun h => ?_) <;> (try simp only [cellEq, toB, Bool.not_eq_true, Bool.not_eq_false] at h) <;> (try (exfalso; first | omega | contradiction | (simp at h; done) | fail); done) <;> conv => whnf)))
        | (refine ix_id ?_; first
          | (refine ix_lit (by first | decide | omega) (by (first | (simp only [Nat.zero_add, Nat.add_zero, Nat.mul_one, Nat.reduceAdd, Nat.reduceMul, Int.reduceToNat, Int.toNat_natCast, Int.toNat_zero, Int.toNat_one, Nat.zero_mul]; done) | (simp only [Nat.zero_add, Nat.add_zero, Nat.mul_one, Nat.reduceAdd, Nat.reduceMul, Int.reduceToNat, Int.toNat_natCast, Int.toNat_zero, Int.toNat_one, Nat.zero_mul]; rfl) | rfl)) (by rfl) ?_; conv => whnf)
          | (refine ix_sym (by omega) ?_; conv => whnf))
        | (refine lcall_id ?_; first | (refine lcall_ret (fun w' hl => power_S _ w') ?_; conv => whnf) | (refine lcall_ret (fun w' hl => down_S w' _ _ (by omega) hp.1) ?_; conv => whnf) | (refine lcall_ret (fun w' hl => rsat_S w' _) ?_; conv => whnf))
        | (refine lload_id ?_; first
          | (fail)
          | (refine load_old _ (by with_reducible assumption) (by simp; done) ?_; conv => whnf))
        | (refine lixs_id ?_; fail)
        | (refine ex_id ?_; refine ex_z (by (first | (simp only [Int.reduceAdd, Int.reduceSub, Int.reduceMul, Int.reduceNeg, Int.reduceMod, Int.reduceDiv, Int.reduceTMod, Int.reduceTDiv, Int.zero_add, Int.add_zero]; done) | (simp only [Int.reduceAdd, Int.reduceSub, Int.reduceMul, Int.reduceNeg, Int.reduceMod, Int.reduceDiv, Int.reduceTMod, Int.reduceTDiv, Int.zero_add, Int.add_zero]; rfl) | rfl)) ?_; conv => whnf)
        | (refine sh_id ?_; refine sh_z (by omega) (by (first | (simp only [Int.reduceAdd, Int.reduceSub, Int.reduceMul, Int.reduceNeg, Int.reduceMod, Int.reduceDiv, Int.reduceTMod, Int.reduceTDiv, Int.zero_add, Int.add_zero]; done) | (simp only [Int.reduceAdd, Int.reduceSub, Int.reduceMul, Int.reduceNeg, Int.reduceMod, Int.reduceDiv, Int.reduceTMod, Int.reduceTDiv, Int.zero_add, Int.add_zero]; rfl) | rfl)) ?_; conv => whnf)
        | (refine quo_id ?_; first
          | (refine quo_in (by omega) (by (first | (simp only [Int.reduceAdd, Int.reduceSub, Int.reduceMul, Int.reduceNeg, Int.reduceMod, Int.reduceDiv, Int.reduceTMod, Int.reduceTDiv, Int.zero_add, Int.add_zero]; done) | (simp only [Int.reduceAdd, Int.reduceSub, Int.reduceMul, Int.reduceNeg, Int.reduceMod, Int.reduceDiv, Int.reduceTMod, Int.reduceTDiv, Int.zero_add, Int.add_zero]; rfl) | rfl)) (by (dsimp only [inR]; first | decide | omega)) ?_; conv => whnf)
          | (refine quo_t (by omega) (by (dsimp only [inR]; first | decide | omega)) ?_; conv => whnf))
        | (refine rem_id ?_; first
          | (refine rem_in (by omega) (by (first | (simp only [Int.reduceAdd, Int.reduceSub, Int.reduceMul, Int.reduceNeg, Int.reduceMod, Int.reduceDiv, Int.reduceTMod, Int.reduceTDiv, Int.zero_add, Int.add_zero]; done) | (simp only [Int.reduceAdd, Int.reduceSub, Int.reduceMul, Int.reduceNeg, Int.reduceMod, Int.reduceDiv, Int.reduceTMod, Int.reduceTDiv, Int.zero_add, Int.add_zero]; rfl) | rfl)) ?_; conv => whnf)
          | (refine rem_t (by omega) ?_; conv => whnf))
        | (refine app_id ?_; refine app_i (by (first | (simp only [Nat.zero_add, Nat.add_zero, Nat.mul_one, Nat.reduceAdd, Nat.reduceMul, Int.reduceToNat, Int.toNat_natCast, Int.toNat_zero, Int.toNat_one, Nat.zero_mul]; done) | (simp only [Nat.zero_add, Nat.add_zero, Nat.mul_one, Nat.reduceAdd, Nat.reduceMul, Int.reduceToNat, Int.toNat_natCast, Int.toNat_zero, Int.toNat_one, Nat.zero_mul]; rfl) | rfl)) (by (first | (simp only [List.nil_append, List.cons_append, List.append_nil]; done) | (simp only [List.nil_append, List.cons_append, List.append_nil]; rfl) | rfl)) (by omega) (by omega) ?_; intro _ _; conv => whnf)
        | (refine sl_id ?_; fail)
        | (refine eff_id ?_; fail)
        | (refine val_id ?_; fail)
        | (refine x_rnd ?_)
        | (refine x_rnd' ?_)
        | (refine xdrw_id ?_; fail))
      (refine fin_ret ?_)
      first | rfl | omega | (congr 1; omega)
    · by_cases c3 : n < -m
      · rw [clampL n m c1 c3]
        refine ret_x tab_ok Try.func34 rfl Try.ntmps34 (by rfl) ?_; simp only [argX, Nat.reduceAdd, Nat.zero_add]; conv => whnf
        repeat' (first
          | (fail)
          | (refine run_c tab_ok ?_; conv => whnf)
          | (refine side_id ?_; refine side_i (by first | rfl | exact ⟨rfl, rfl, rfl, rfl⟩ | trivial | (simp [allOne, partsOne, Value.cells, Value.oneCell']; done) | fail) ?_; conv => whnf)
          | (refine ar_id ?_; refine ar_in (by (first | (simp only [Int.reduceAdd, Int.reduceSub, Int.reduceMul, Int.reduceNeg, Int.reduceMod, Int.reduceDiv, Int.reduceTMod, Int.reduceTDiv, Int.zero_add, Int.add_zero]; done) | (simp only [Int.reduceAdd, Int.reduceSub, Int.reduceMul, Int.reduceNeg, Int.reduceMod, Int.reduceDiv, Int.reduceTMod, Int.reduceTDiv, Int.zero_add, Int.add_zero]; rfl) | rfl)) (by (dsimp only [inR]; first | decide | omega)) ?_; conv => whnf)
          | (refine new_i ?_; intro _; conv => whnf)
          | (refine br_id ?_; first
            | (refine br_t (by first | decide | omega | grind | fail) ?_; conv => whnf)
            | (refine br_f (by first | decide | omega | (with_reducible exact Bool.false_ne_true) | (with_reducible refine not_not_intro ?_; fail) | (simp only [cellEq, toB]; omega) | (simp only [cellEq, toB]; simp; done) | fail) ?_; conv => whnf)
            | ((refine br_any (fun h => ?_) (fun h => ?_) <;> (try simp only [cellEq, toB, Bool.not_eq_true, Bool.not_eq_false] at h) <;> (try (exfalso; first | omega | contradiction | (simp at h; done) | fail); done) <;> conv => whnf)))
          | (refine ix_id ?_; first
            | (refine ix_lit (by first | decide | omega) (by (first | (simp only [Nat.zero_add, Nat.add_zero, Nat.mul_one, Nat.reduceAdd, Nat.reduceMul, Int.reduceToNat, Int.toNat_natCast, Int.toNat_zero, Int.toNat_one, Nat.zero_mul]; done) | (simp only [Nat.zero_add, Nat.add_zero, Nat.mul_one, Nat.reduceAdd, Nat.reduceMul, Int.reduceToNat, Int.toNat_natCast, Int.toNat_zero, Int.toNat_one, Nat.zero_mul]; rfl) | rfl)) (by rfl) ?_; conv => whnf)
            | (refine ix_sym (by omega) ?_; conv => whnf))
          | (refine lcall_id ?_; first | (refine lcall_ret (fun w' hl => power_S _ w') ?_; conv => whnf) | (refine lcall_ret (fun w' hl => down_S w' _ _ (by omega) hp.1) ?_; conv => whnf) | (refine lcall_ret (fun w' hl => rsat_S w' _) ?_; conv => whnf))
          | (refine lload_id ?_; first
            | (fail)
            | (refine load_old _ (by with_reducible assumption) (by simp; done) ?_; conv => whnf))
          | (refine lixs_id ?_; fail)
          | (refine ex_id ?_; refine ex_z (by (first | (simp only [Int.reduceAdd, Int.reduceSub, Int.reduceMul, Int.reduceNeg, Int.reduceMod, Int.reduceDiv, Int.reduceTMod, Int.reduceTDiv, Int.zero_add, Int.add_zero]; done) | (simp only [Int.reduceAdd, Int.reduceSub, Int.reduceMul, Int.reduceNeg, Int.reduceMod, Int.reduceDiv, Int.reduceTMod, Int.reduceTDiv, Int.zero_add, Int.add_zero]; rfl) | rfl)) ?_; conv => whnf)
          | (refine sh_id ?_; refine sh_z (by omega) (by (first | (simp only [Int.reduceAdd, Int.reduceSub, Int.reduceMul, Int.reduceNeg, Int.reduceMod, Int.reduceDiv, Int.reduceTMod, Int.reduceTDiv, Int.zero_add, Int.add_zero]; done) | (simp only [Int.reduceAdd, Int.reduceSub, Int.reduceMul, Int.reduceNeg, Int.reduceMod, Int.reduceDiv, Int.reduceTMod, Int.reduceTDiv, Int.zero_add, Int.add_zero]; rfl) | rfl)) ?_; conv => whnf)
          | (refine quo_id ?_; first
            | (refine quo_in (by omega) (by (first | (simp only [Int.reduceAdd, Int.reduceSub, Int.reduceMul, Int.reduceNeg, Int.reduceMod, Int.reduceDiv, Int.reduceTMod, Int.reduceTDiv, Int.zero_add, Int.add_zero]; done) | (simp only [Int.reduceAdd, Int.reduceSub, Int.reduceMul, Int.reduceNeg, Int.reduceMod, Int.reduceDiv, Int.reduceTMod, Int.reduceTDiv, Int.zero_add, Int.add_zero]; rfl) | rfl)) (by (dsimp only [inR]; first | decide | omega)) ?_; conv => whnf)
            | (refine quo_t (by omega) (by (dsimp only [inR]; first | decide | omega)) ?_; conv => whnf))
          | (refine rem_id ?_; first
            | (refine rem_in (by omega) (by (first | (simp only [Int.reduceAdd, Int.reduceSub, Int.reduceMul, Int.reduceNeg, Int.reduceMod, Int.reduceDiv, Int.reduceTMod, Int.reduceTDiv, Int.zero_add, Int.add_zero]; done) | (simp only [Int.reduceAdd, Int.reduceSub, Int.reduceMul, Int.reduceNeg, Int.reduceMod, Int.reduceDiv, Int.reduceTMod, Int.reduceTDiv, Int.zero_add, Int.add_zero]; rfl) | rfl)) ?_; conv => whnf)
            | (refine rem_t (by omega) ?_; conv => whnf))
          | (refine app_id ?_; refine app_i (by (first | (simp only [Nat.zero_add, Nat.add_zero, Nat.mul_one, Nat.reduceAdd, Nat.reduceMul, Int.reduceToNat, Int.toNat_natCast, Int.toNat_zero, Int.toNat_one, Nat.zero_mul]; done) | (simp only [Nat.zero_add, Nat.add_zero, Nat.mul_one, Nat.reduceAdd, Nat.reduceMul, Int.reduceToNat, Int.toNat_natCast, Int.toNat_zero, Int.toNat_one, Nat.zero_mul]; rfl) | rfl)) (by (first | (simp only [List.nil_append, List.cons_append, List.append_nil]; done) | (simp only [List.nil_append, List.cons_append, List.append_nil]; rfl) | rfl)) (by omega) (by omega) ?_; intro _ _; conv => whnf)
          | (refine sl_id ?_; fail)
          | (refine eff_id ?_; fail)
          | (refine val_id ?_; fail)
          | (refine x_rnd ?_)
          | (refine x_rnd' ?_)
          | (refine xdrw_id ?_; fail))
        (refine fin_ret ?_)
        first | rfl | omega | (congr 1; omega)
      · rw [clampM n m c1 c2 c3]
        refine ret_x tab_ok Try.func34 rfl Try.ntmps34 (by rfl) ?_; simp only [argX, Nat.reduceAdd, Nat.zero_add]; conv => whnf
        repeat' (first
          | (fail)
          | (refine run_c tab_ok ?_; conv => whnf)
          | (refine side_id ?_; refine side_i (by first | rfl | exact ⟨rfl, rfl, rfl, rfl⟩ | trivial | (simp [allOne, partsOne, Value.cells, Value.oneCell']; done) | fail) ?_; conv => whnf)
          | (refine ar_id ?_; refine ar_in (by (first | (simp only [Int.reduceAdd, Int.reduceSub, Int.reduceMul, Int.reduceNeg, Int.reduceMod, Int.reduceDiv, Int.reduceTMod, Int.reduceTDiv, Int.zero_add, Int.add_zero]; done) | (simp only [Int.reduceAdd, Int.reduceSub, Int.reduceMul, Int.reduceNeg, Int.reduceMod, Int.reduceDiv, Int.reduceTMod, Int.reduceTDiv, Int.zero_add, Int.add_zero]; rfl) | rfl)) (by (dsimp only [inR]; first | decide | omega)) ?_; conv => whnf)
          | (refine new_i ?_; intro _; conv => whnf)
          | (refine br_id ?_; first
            | (refine br_t (by first | decide | omega | grind | fail) ?_; conv => whnf)
            | (refine br_f (by first | decide | omega | (with_reducible exact Bool.false_ne_true) | (with_reducible refine not_not_intro ?_; fail) | (simp only [cellEq, toB]; omega) | (simp only [cellEq, toB]; simp; done) | fail) ?_; conv => whnf)
            | ((refine br_any (fun h => ?_) (fun h => ?_) <;> (try simp only [cellEq, toB, Bool.not_eq_true, Bool.not_eq_false] at h) <;> (try (exfalso; first | omega | contradiction | (simp at h; done) | fail); done) <;> conv => whnf)))
          | (refine ix_id ?_; first
            | (refine ix_lit (by first | decide | omega) (by (first | (simp only [Nat.zero_add, Nat.add_zero, Nat.mul_one, Nat.reduceAdd, Nat.reduceMul, Int.reduceToNat, Int.toNat_natCast, Int.toNat_zero, Int.toNat_one, Nat.zero_mul]; done) | (simp only [Nat.zero_add, Nat.add_zero, Nat.mul_one, Nat.reduceAdd, Nat.reduceMul, Int.reduceToNat, Int.toNat_natCast, Int.toNat_zero, Int.toNat_one, Nat.zero_mul]; rfl) | rfl)) (by rfl) ?_; conv => whnf)
            | (refine ix_sym (by omega) ?_; conv => whnf))
          | (refine lcall_id ?_; first | (refine lcall_ret (fun w' hl => power_S _ w') ?_; conv => whnf) | (refine lcall_ret (fun w' hl => down_S w' _ _ (by omega) hp.1) ?_; conv => whnf) | (refine lcall_ret (fun w' hl => rsat_S w' _) ?_; conv => whnf))
          | (refine lload_id ?_; first
            | (fail)
            | (refine load_old _ (by with_reducible assumption) (by simp; done) ?_; conv => whnf))
          | (refine lixs_id ?_; fail)
          | (refine ex_id ?_; refine ex_z (by (first | (simp only [Int.reduceAdd, Int.reduceSub, Int.reduceMul, Int.reduceNeg, Int.reduceMod, Int.reduceDiv, Int.reduceTMod, Int.reduceTDiv, Int.zero_add, Int.add_zero]; done) | (simp only [Int.reduceAdd, Int.reduceSub, Int.reduceMul, Int.reduceNeg, Int.reduceMod, Int.reduceDiv, Int.reduceTMod, Int.reduceTDiv, Int.zero_add, Int.add_zero]; rfl) | rfl)) ?_; conv => whnf)
          | (refine sh_id ?_; refine sh_z (by omega) (by (first | (simp only [Int.reduceAdd, Int.reduceSub, Int.reduceMul, Int.reduceNeg, Int.reduceMod, Int.reduceDiv, Int.reduceTMod, Int.reduceTDiv, Int.zero_add, Int.add_zero]; done) | (simp only [Int.reduceAdd, Int.reduceSub, Int.reduceMul, Int.reduceNeg, Int.reduceMod, Int.reduceDiv, Int.reduceTMod, Int.reduceTDiv, Int.zero_add, Int.add_zero]; rfl) | rfl)) ?_; conv => whnf)
          | (refine quo_id ?_; first
            | (refine quo_in (by omega) (by (first | (simp only [Int.reduceAdd, Int.reduceSub, Int.reduceMul, Int.reduceNeg, Int.reduceMod, Int.reduceDiv, Int.reduceTMod, Int.reduceTDiv, Int.zero_add, Int.add_zero]; done) | (simp only [Int.reduceAdd, Int.reduceSub, Int.reduceMul, Int.reduceNeg, Int.reduceMod, Int.reduceDiv, Int.reduceTMod, Int.reduceTDiv, Int.zero_add, Int.add_zero]; rfl) | rfl)) (by (dsimp only [inR]; first | decide | omega)) ?_; conv => whnf)
            | (refine quo_t (by omega) (by (dsimp only [inR]; first | decide | omega)) ?_; conv => whnf))
          | (refine rem_id ?_; first
            | (refine rem_in (by omega) (by (first | (simp only [Int.reduceAdd, Int.reduceSub, Int.reduceMul, Int.reduceNeg, Int.reduceMod, Int.reduceDiv, Int.reduceTMod, Int.reduceTDiv, Int.zero_add, Int.add_zero]; done) | (simp only [Int.reduceAdd, Int.reduceSub, Int.reduceMul, Int.reduceNeg, Int.reduceMod, Int.reduceDiv, Int.reduceTMod, Int.reduceTDiv, Int.zero_add, Int.add_zero]; rfl) | rfl)) ?_; conv => whnf)
            | (refine rem_t (by omega) ?_; conv => whnf))
          | (refine app_id ?_; refine app_i (by (first | (simp only [Nat.zero_add, Nat.add_zero, Nat.mul_one, Nat.reduceAdd, Nat.reduceMul, Int.reduceToNat, Int.toNat_natCast, Int.toNat_zero, Int.toNat_one, Nat.zero_mul]; done) | (simp only [Nat.zero_add, Nat.add_zero, Nat.mul_one, Nat.reduceAdd, Nat.reduceMul, Int.reduceToNat, Int.toNat_natCast, Int.toNat_zero, Int.toNat_one, Nat.zero_mul]; rfl) | rfl)) (by (first | (simp only [List.nil_append, List.cons_append, List.append_nil]; done) | (simp only [List.nil_append, List.cons_append, List.append_nil]; rfl) | rfl)) (by omega) (by omega) ?_; intro _ _; conv => whnf)
          | (refine sl_id ?_; fail)
          | (refine eff_id ?_; fail)
          | (refine val_id ?_; fail)
          | (refine x_rnd ?_)
          | (refine x_rnd' ?_)
          | (refine xdrw_id ?_; fail))
        (refine fin_ret ?_)
        first | rfl | omega | (congr 1; omega)
end Go.Proofs.Ytfnailajblfckaa
