/- The contracts of steer, by reckoning: Bdot, Share, Joined, Pulses, Calm, Seen; the references. -/
import Derived.Test.YtfnailajblfckaaDoorNa
import Derived.Test.YtfnailajblfckaaDoorGw
import Derived.Test.YtfnailajblfckaaDoorBs
namespace Go.Proofs.YtfnailajblfckaaDoor
set_option linter.unusedSimpArgs false
set_option linter.unusedVariables false
set_option linter.unnecessarySimpa false
set_option maxRecDepth 100000
set_option maxHeartbeats 2000000
open Go.RowKit

theorem sat_id (n : Int) (h : -2147483648 ≤ n ∧ n ≤ 2147483647) : sat n = n := by unfold sat; rw [if_neg (by omega), if_neg (by omega)]
/-- The wheels' axes, as they lie. -/
def axC : List SV := [i32 1, i32 1, i32 1, i32 1, i32 (-1), i32 (-1), i32 (-1), i32 1, i32 (-1), i32 (-1), i32 (-1), i32 1]
def Ax (w : World) : Prop := ∀ i u, (dens axC)[i]? = some u → w.cell? ⟨0, 0 + i, none⟩ = some u
theorem Ax.loc {w w' : World} {is : List Itm} (h : Ax w) (hl : Loc w [] is w') : Ax w' := fun i u hu => hl.old (h i u hu) (by simp)
theorem ax_at {w : World} (h : Ax w) (cs : List SV) (k : Nat) (hs : ∀ i u, (dens cs)[i]? = some u → (dens axC)[k + i]? = some u) {off : Nat} (ho : off = k) : ∀ i u, (dens cs)[i]? = some u → w.cell? ⟨0, off + i, none⟩ = some u := by
  subst ho
  intro i u hu
  have := h (off + i) u (hs i u hu)
  rwa [Nat.zero_add] at this
theorem three_at {a b c : SV} {l : List Value} {k : Nat} (h0 : l[k + 0]? = some a.den) (h1 : l[k + 1]? = some b.den) (h2 : l[k + 2]? = some c.den) : ∀ i u, (dens [a, b, c])[i]? = some u → l[k + i]? = some u := by
  intro i u hu
  rcases i with _ | _ | _ | i
  · rw [h0]; exact hu
  · rw [h1]; exact hu
  · rw [h2]; exact hu
  · simp [dens] at hu
theorem ssum3 (a b c : Int) (ha : a.natAbs ≤ 1000000000000000) (hb : b.natAbs ≤ 1000000000000000) (hc : c.natAbs ≤ 1000000000000000) : ssum [a, b, c] = a + b + c := by
  have e : ∀ x y : Int, x.natAbs ≤ 2000000000000000 → y.natAbs ≤ 1000000000000000 → sadd x y = x + y := fun x y hx hy => by unfold sadd; split <;> (try split) <;> omega
  show sadd (sadd (sadd 0 a) b) c = _
  rw [e 0 a (by omega) (by omega), e (0 + a) b (by omega) (by omega), e (0 + a + b) c (by omega) (by omega)]
  omega
def PM (s : Int) : Prop := s = 1 ∨ s = -1
theorem vdotA (s0 s1 s2 t0 t1 t2 n : Int) (w : World) (hs0 : PM s0) (hs1 : PM s1) (hs2 : PM s2) (h0 : I32 t0) (h1 : I32 t1) (h2 : I32 t2) (hn : s0 * t0 + s1 * t1 + s2 * t2 = n) :
    RetS Tryd.prog 25 [v3 s0 s1 s2, v3 t0 t1 t2] w (i64 n) := by
  have i0 : I32 s0 := by unfold I32; rcases hs0 with rfl | rfl <;> omega
  have i1 : I32 s1 := by unfold I32; rcases hs1 with rfl | rfl <;> omega
  have i2 : I32 s2 := by unfold I32; rcases hs2 with rfl | rfl <;> omega
  have := vdot_S s0 s1 s2 t0 t1 t2 w i0 i1 i2 h0 h1 h2
  unfold I32 at h0 h1 h2
  have b0 : (s0 * t0).natAbs ≤ 1000000000000000 := by rcases hs0 with rfl | rfl <;> omega
  have b1 : (s1 * t1).natAbs ≤ 1000000000000000 := by rcases hs1 with rfl | rfl <;> omega
  have b2 : (s2 * t2).natAbs ≤ 1000000000000000 := by rcases hs2 with rfl | rfl <;> omega
  rwa [ssum3 _ _ _ b0 b1 b2, hn] at this
theorem vscaleA (s0 s1 s2 n : Int) (w : World) (hs0 : PM s0) (hs1 : PM s1) (hs2 : PM s2) (hn : I32 n) :
    RetS Tryd.prog 22 [v3 s0 s1 s2, i32 n, i64 0] w (v3 (sat (s0 * n)) (sat (s1 * n)) (sat (s2 * n))) := by
  have i0 : I32 s0 := by unfold I32; rcases hs0 with rfl | rfl <;> omega
  have i1 : I32 s1 := by unfold I32; rcases hs1 with rfl | rfl <;> omega
  have i2 : I32 s2 := by unfold I32; rcases hs2 with rfl | rfl <;> omega
  have := vscale_S s0 s1 s2 n 0 w i0 i1 i2 hn
  have e : (2 : Int) ^ pt 0 = 1 := by decide
  rwa [e, Int.ediv_one, Int.ediv_one, Int.ediv_one] at this
theorem pm1 : PM 1 := .inl rfl
theorem pmn : PM (-1) := .inr rfl
theorem fsat_S (n : Int) (w : World) : RetS Tryd.prog 27 [i64 n] w (i32 (sat n)) := .same (sat_any n w)
theorem rsat_S (n : Int) (w : World) : RetS Tryd.prog 14 [i64 n] w (i32 (sat n)) := .same (rsat_any n w)
/-! shares -/
def shv (n m : Int) : Int := clampv (sat (n / 4)) (-pos m) (pos m)
def shE (b : Bool) (n m : Int) : Int := if b then shv n m else 0
abbrev v4 (a b c d : Int) : SV := .agg [i32 a, i32 b, i32 c, i32 d]
theorem share_S (t0 t1 t2 : Int) (s : Nat) (m : Int) (w : World) (hax : Ax w) (h0 : I32 t0) (h1 : I32 t1) (h2 : I32 t2) (hs : s < 65536) (hm : I32 m) :
    RetS Tryd.prog 9 [v3 t0 t1 t2, setV s, i32 m] w (v4 (shE (hasN s 0) (t0 + t1 + t2) m) (shE (hasN s 1) (t0 - t1 - t2) m) (shE (hasN s 2) (t1 - t0 - t2) m) (shE (hasN s 3) (t2 - t0 - t1) m)) := by
  have hm' := hm
  unfold I32 at hm'
  refine ret_x tab_ok Tryd.func9 rfl Tryd.ntmps9 (by rfl) ?_; simp only [argX, Nat.reduceAdd, Nat.zero_add]; conv => whnf
  repeat' (first | (refine run_c tab_ok ?_; conv => whnf) | (refine side_id ?_; refine side_i (by first | rfl | exact ⟨rfl, rfl, rfl, rfl⟩ | trivial | (simp [allOne, partsOne, Value.cells, Value.oneCell']; done) | fail) ?_; conv => whnf) | (refine ar_id ?_; first | (refine ar_in (by (first | (simp only [Int.reduceAdd, Int.reduceSub, Int.reduceMul, Int.reduceNeg, Int.reduceMod, Int.reduceDiv, Int.reduceTMod, Int.reduceTDiv, Int.zero_add, Int.add_zero] <;> rfl) | rfl)) (by (dsimp only [inR]; first | decide | omega)) ?_; conv => whnf)) | (refine new_i ?_; intro _; conv => whnf) | (refine br_id ?_; first | (refine br_t (by first | decide | omega | (with_reducible rfl) | fail | (simp only [cellEq, toB]; omega) | (simp only [cellEq, toB]; simp; done) | fail) ?_; conv => whnf) | (refine br_f (by first | decide | omega | (with_reducible exact Bool.false_ne_true) | (with_reducible refine not_not_intro ?_; fail) | (simp only [cellEq, toB]; omega) | (simp only [cellEq, toB]; simp; done) | fail) ?_; conv => whnf) | ((refine br_any (fun h => ?_) (fun h => ?_) <;> (try simp only [cellEq, toB, Bool.not_eq_true, Bool.not_eq_false] at h) <;> (try (exfalso; first | omega | contradiction | (simp at h; done) | fail); done) <;> conv => whnf))) | (refine ix_id ?_; first | (refine ix_lit (by first | decide | omega) (by (first | (simp only [Nat.zero_add, Nat.add_zero, Nat.mul_one, Nat.reduceAdd, Nat.reduceMul, Int.reduceToNat, Int.toNat_natCast, Int.toNat_zero, Int.toNat_one, Nat.zero_mul] <;> rfl) | rfl)) (by rfl) ?_; conv => whnf) | (refine ix_sym (by omega) ?_; conv => whnf)) | (refine lcall_id ?_; first | (refine lcall_ret (fun w' hl => has_S s _ w' hs) ?_; conv => whnf) | (refine lcall_ret (fun w' hl => vdotA 1 1 1 t0 t1 t2 (t0 + t1 + t2) w' pm1 pm1 pm1 h0 h1 h2 (by omega)) ?_; conv => whnf) | (refine lcall_ret (fun w' hl => vdotA 1 (-1) (-1) t0 t1 t2 (t0 - t1 - t2) w' pm1 pmn pmn h0 h1 h2 (by omega)) ?_; conv => whnf) | (refine lcall_ret (fun w' hl => vdotA (-1) 1 (-1) t0 t1 t2 (t1 - t0 - t2) w' pmn pm1 pmn h0 h1 h2 (by omega)) ?_; conv => whnf) | (refine lcall_ret (fun w' hl => vdotA (-1) (-1) 1 t0 t1 t2 (t2 - t0 - t1) w' pmn pmn pm1 h0 h1 h2 (by omega)) ?_; conv => whnf) | (refine lcall_ret (fun w' hl => fsat_S _ w') ?_; conv => whnf) | (refine lcall_ret (fun w' hl => fclamp_S _ _ _ w') ?_; conv => whnf)) | (refine lload_id ?_; first | ((refine load_oldS axC (by rfl) hax (by simp) ?_; conv => whnf)) | (refine load_old _ (by with_reducible assumption) (by simp; done) ?_; conv => whnf)) | (refine ex_id ?_; first | (refine ex_z (by (first | (simp only [Int.reduceAdd, Int.reduceSub, Int.reduceMul, Int.reduceNeg, Int.reduceMod, Int.reduceDiv, Int.reduceTMod, Int.reduceTDiv, Int.zero_add, Int.add_zero] <;> rfl) | rfl)) ?_; conv => whnf)) | (refine sh_id ?_; first | ((refine shr_lit 4 (by decide) (by decide) ?_; conv => whnf)) | (refine sh_z (by omega) (by (first | (simp only [Int.reduceAdd, Int.reduceSub, Int.reduceMul, Int.reduceNeg, Int.reduceMod, Int.reduceDiv, Int.reduceTMod, Int.reduceTDiv, Int.zero_add, Int.add_zero] <;> rfl) | rfl)) ?_; conv => whnf)) | (refine quo_id ?_; first | (refine quo_in (by omega) (by (first | (simp only [Int.reduceAdd, Int.reduceSub, Int.reduceMul, Int.reduceNeg, Int.reduceMod, Int.reduceDiv, Int.reduceTMod, Int.reduceTDiv, Int.zero_add, Int.add_zero] <;> rfl) | rfl)) (by (dsimp only [inR]; first | decide | omega)) ?_; conv => whnf) | (refine quo_t (by omega) (by (dsimp only [inR]; first | decide | omega)) ?_; conv => whnf)) | (refine rem_id ?_; first | (refine rem_in (by omega) (by (first | (simp only [Int.reduceAdd, Int.reduceSub, Int.reduceMul, Int.reduceNeg, Int.reduceMod, Int.reduceDiv, Int.reduceTMod, Int.reduceTDiv, Int.zero_add, Int.add_zero] <;> rfl) | rfl)) ?_; conv => whnf) | (refine rem_t (by omega) ?_; conv => whnf)) | (refine app_id ?_; refine app_i (by (first | (simp only [Nat.zero_add, Nat.add_zero, Nat.mul_one, Nat.reduceAdd, Nat.reduceMul, Int.reduceToNat, Int.toNat_natCast, Int.toNat_zero, Int.toNat_one, Nat.zero_mul] <;> rfl) | rfl)) (by (first | (simp only [List.nil_append, List.cons_append, List.append_nil] <;> rfl) | rfl)) (by first | omega | (change _ * 1 ≤ _; omega) | (change _ * 8 ≤ _; omega) | (change _ * 2 ≤ _; omega) | (change _ * 4 ≤ _; omega) | (change _ * 16 ≤ _; omega) | (change _ * 24 ≤ _; omega) | (change _ * 32 ≤ _; omega) | (change _ * 40 ≤ _; omega)) (by first | omega | decide) ?_; intro _ _ _; conv => whnf) | (refine mk_id ?_; first | (refine mk_lit (by rfl) (by rfl) (by decide) (by rfl) ?_; conv => whnf) | (refine mk_sym _ (by first | rfl | omega) (by first | rfl | omega) (by omega) (by omega) ?_; conv => whnf)) | (refine x_rnd ?_) | (refine x_rnd' ?_))
  refine x_rounds 5 ?_
  repeat' (first | (refine run_c tab_ok ?_; conv => whnf) | (refine side_id ?_; refine side_i (by first | rfl | exact ⟨rfl, rfl, rfl, rfl⟩ | trivial | (simp [allOne, partsOne, Value.cells, Value.oneCell']; done) | fail) ?_; conv => whnf) | (refine ar_id ?_; first | (refine ar_in (by (first | (simp only [Int.reduceAdd, Int.reduceSub, Int.reduceMul, Int.reduceNeg, Int.reduceMod, Int.reduceDiv, Int.reduceTMod, Int.reduceTDiv, Int.zero_add, Int.add_zero] <;> rfl) | rfl)) (by (dsimp only [inR]; first | decide | omega)) ?_; conv => whnf)) | (refine new_i ?_; intro _; conv => whnf) | (refine br_id ?_; first | (refine br_t (by first | decide | omega | (with_reducible rfl) | fail | (simp only [cellEq, toB]; omega) | (simp only [cellEq, toB]; simp; done) | fail) ?_; conv => whnf) | (refine br_f (by first | decide | omega | (with_reducible exact Bool.false_ne_true) | (with_reducible refine not_not_intro ?_; fail) | (simp only [cellEq, toB]; omega) | (simp only [cellEq, toB]; simp; done) | fail) ?_; conv => whnf) | ((refine br_any (fun h => ?_) (fun h => ?_) <;> (try simp only [cellEq, toB, Bool.not_eq_true, Bool.not_eq_false] at h) <;> (try (exfalso; first | omega | contradiction | (simp at h; done) | fail); done) <;> conv => whnf))) | (refine ix_id ?_; first | (refine ix_lit (by first | decide | omega) (by (first | (simp only [Nat.zero_add, Nat.add_zero, Nat.mul_one, Nat.reduceAdd, Nat.reduceMul, Int.reduceToNat, Int.toNat_natCast, Int.toNat_zero, Int.toNat_one, Nat.zero_mul] <;> rfl) | rfl)) (by rfl) ?_; conv => whnf) | (refine ix_sym (by omega) ?_; conv => whnf)) | (refine lcall_id ?_; first | (refine lcall_ret (fun w' hl => has_S s _ w' hs) ?_; conv => whnf) | (refine lcall_ret (fun w' hl => vdotA 1 1 1 t0 t1 t2 (t0 + t1 + t2) w' pm1 pm1 pm1 h0 h1 h2 (by omega)) ?_; conv => whnf) | (refine lcall_ret (fun w' hl => vdotA 1 (-1) (-1) t0 t1 t2 (t0 - t1 - t2) w' pm1 pmn pmn h0 h1 h2 (by omega)) ?_; conv => whnf) | (refine lcall_ret (fun w' hl => vdotA (-1) 1 (-1) t0 t1 t2 (t1 - t0 - t2) w' pmn pm1 pmn h0 h1 h2 (by omega)) ?_; conv => whnf) | (refine lcall_ret (fun w' hl => vdotA (-1) (-1) 1 t0 t1 t2 (t2 - t0 - t1) w' pmn pmn pm1 h0 h1 h2 (by omega)) ?_; conv => whnf) | (refine lcall_ret (fun w' hl => fsat_S _ w') ?_; conv => whnf) | (refine lcall_ret (fun w' hl => fclamp_S _ _ _ w') ?_; conv => whnf)) | (refine lload_id ?_; first | ((refine load_oldS axC (by rfl) hax (by simp) ?_; conv => whnf)) | (refine load_old _ (by with_reducible assumption) (by simp; done) ?_; conv => whnf)) | (refine ex_id ?_; first | (refine ex_z (by (first | (simp only [Int.reduceAdd, Int.reduceSub, Int.reduceMul, Int.reduceNeg, Int.reduceMod, Int.reduceDiv, Int.reduceTMod, Int.reduceTDiv, Int.zero_add, Int.add_zero] <;> rfl) | rfl)) ?_; conv => whnf)) | (refine sh_id ?_; first | ((refine shr_lit 4 (by decide) (by decide) ?_; conv => whnf)) | (refine sh_z (by omega) (by (first | (simp only [Int.reduceAdd, Int.reduceSub, Int.reduceMul, Int.reduceNeg, Int.reduceMod, Int.reduceDiv, Int.reduceTMod, Int.reduceTDiv, Int.zero_add, Int.add_zero] <;> rfl) | rfl)) ?_; conv => whnf)) | (refine quo_id ?_; first | (refine quo_in (by omega) (by (first | (simp only [Int.reduceAdd, Int.reduceSub, Int.reduceMul, Int.reduceNeg, Int.reduceMod, Int.reduceDiv, Int.reduceTMod, Int.reduceTDiv, Int.zero_add, Int.add_zero] <;> rfl) | rfl)) (by (dsimp only [inR]; first | decide | omega)) ?_; conv => whnf) | (refine quo_t (by omega) (by (dsimp only [inR]; first | decide | omega)) ?_; conv => whnf)) | (refine rem_id ?_; first | (refine rem_in (by omega) (by (first | (simp only [Int.reduceAdd, Int.reduceSub, Int.reduceMul, Int.reduceNeg, Int.reduceMod, Int.reduceDiv, Int.reduceTMod, Int.reduceTDiv, Int.zero_add, Int.add_zero] <;> rfl) | rfl)) ?_; conv => whnf) | (refine rem_t (by omega) ?_; conv => whnf)) | (refine app_id ?_; refine app_i (by (first | (simp only [Nat.zero_add, Nat.add_zero, Nat.mul_one, Nat.reduceAdd, Nat.reduceMul, Int.reduceToNat, Int.toNat_natCast, Int.toNat_zero, Int.toNat_one, Nat.zero_mul] <;> rfl) | rfl)) (by (first | (simp only [List.nil_append, List.cons_append, List.append_nil] <;> rfl) | rfl)) (by first | omega | (change _ * 1 ≤ _; omega) | (change _ * 8 ≤ _; omega) | (change _ * 2 ≤ _; omega) | (change _ * 4 ≤ _; omega) | (change _ * 16 ≤ _; omega) | (change _ * 24 ≤ _; omega) | (change _ * 32 ≤ _; omega) | (change _ * 40 ≤ _; omega)) (by first | omega | decide) ?_; intro _ _ _; conv => whnf) | (refine mk_id ?_; first | (refine mk_lit (by rfl) (by rfl) (by decide) (by rfl) ?_; conv => whnf) | (refine mk_sym _ (by first | rfl | omega) (by first | rfl | omega) (by omega) (by omega) ?_; conv => whnf)) | (refine x_rnd ?_) | (refine x_rnd' ?_))
  all_goals (
    (refine fin_ret ?_)
    simp [*, shE, shv, pos, SV.den, dens]
    done)
end Go.Proofs.YtfnailajblfckaaDoor
