/- The laws of layer 2, by reckoning: parts, lines. -/
import Derived.Test.YtfnailajblfckaaQa
namespace Go.Proofs.Ytfnailajblfckaa
set_option linter.unusedSimpArgs false
set_option linter.unusedVariables false
set_option linter.unnecessarySimpa false
set_option maxRecDepth 100000
open Go.RowKit

/-- A block that reads as a list of vectors, by its tag. -/
def VRt (_ : Nat) (w : World) (A : Option Addr) (n : Nat) (vs : List V3) : Prop := VR w A n vs
def svV : List SV → Option (List V3)
  | [] => some []
  | .int .i32 x :: .int .i32 y :: .int .i32 z :: r => match svV r with
    | some vs => some (⟨x, y, z⟩ :: vs)
    | none => none
  | _ => none
theorem svV_some {cs : List SV} {vs : List V3} (h : svV cs = some vs) : dens cs = vs.flatMap V3.cs := by
  induction cs using svV.induct generalizing vs with
  | case1 => simp [svV] at h; subst h; rfl
  | case2 x y z r vs' hr ih =>
    simp only [svV, hr, Option.some.injEq] at h
    subst h
    rw [List.flatMap_cons, ← ih hr]
    rfl
  | case3 x y z r hr ih => simp [svV, hr] at h
  | case4 t h1 h2 =>
    unfold svV at h
    split at h
    · exact absurd rfl h1
    · exact absurd rfl (h2 _ _ _ _)
    · cases h
theorem vrT {w0 w : World} {S : List Nat} {m : Mem} {e : TypeId} {h b : Nat} {cs : List SV} {vs : List V3} (hl : Loc w0 S (denM m) w) (hf : findB m h = some (.blk h e b cs)) (hx : svV cs = some vs) : VRt h w (some ⟨b, 0, none⟩) vs.length vs := vrX hl hf (svV_some hx)
theorem vadd3_C {h b : Nat} {a0 a1 a2 b0 b1 b2 c0 c1 c2 : Int} {w : World} (hr : VRt h w (some ⟨b, 0, none⟩) 3 [⟨a0, a1, a2⟩, ⟨b0, b1, b2⟩, ⟨c0, c1, c2⟩]) (ha0 : I32 a0) (ha1 : I32 a1) (ha2 : I32 a2) (hb0 : I32 b0) (hb1 : I32 b1) (hb2 : I32 b2) (hc0 : I32 c0) (hc1 : I32 c1) (hc2 : I32 c2) : RetS Try.prog 29 [.slB h b 0 3 3] w (v3 (sat (a0 + b0 + c0)) (sat (a1 + b1 + c1)) (sat (a2 + b2 + c2))) := ⟨vadd3 _ _ _ _ _ _ _ _ _ _ w hr ha0 ha1 ha2 hb0 hb1 hb2 hc0 hc1 hc2⟩
theorem vadd2_C {h b : Nat} {a0 a1 a2 b0 b1 b2 : Int} {w : World} (hr : VRt h w (some ⟨b, 0, none⟩) 2 [⟨a0, a1, a2⟩, ⟨b0, b1, b2⟩]) (ha0 : I32 a0) (ha1 : I32 a1) (ha2 : I32 a2) (hb0 : I32 b0) (hb1 : I32 b1) (hb2 : I32 b2) : RetS Try.prog 29 [.slB h b 0 2 2] w (v3 (sat (a0 + b0)) (sat (a1 + b1)) (sat (a2 + b2))) := ⟨vadd2 _ _ _ _ _ _ _ w hr ha0 ha1 ha2 hb0 hb1 hb2⟩
theorem sat_zero : sat 0 = 0 := by decide
set_option maxHeartbeats 1000000 in
theorem vecParts_ret (a0 a1 a2 b0 b1 b2 c0 c1 c2 k q : Int) (w : World) (ha0 : I32 a0) (ha1 : I32 a1) (ha2 : I32 a2) (hb0 : I32 b0) (hb1 : I32 b1) (hb2 : I32 b2) (hc0 : I32 c0) (hc1 : I32 c1) (hc2 : I32 c2) (hk : I32 k) :
    RetS Try.prog 9 [v3 a0 a1 a2, v3 b0 b1 b2, v3 c0 c1 c2, i32 k, i64 q] w (.lit true) := by
  have i0 := ha0
  have i1 := ha1
  have i2 := ha2
  have i3 := hb0
  have i4 := hb1
  have i5 := hb2
  have i6 := hc0
  have i7 := hc1
  have i8 := hc2
  have i9 := hk
  unfold I32 at i0 i1 i2 i3 i4 i5 i6 i7 i8 i9
  have m0 := mul_bd a0 k ha0 hk
  have m1 := mul_bd a1 k ha1 hk
  have m2 := mul_bd a2 k ha2 hk
  have hp := pow_bd q
  refine ret_x tab_ok Try.func9 rfl Try.ntmps9 (by rfl) ?_; simp only [argX, Nat.reduceAdd, Nat.zero_add]; conv => whnf
  repeat' (first
    | (fail)
    | (refine run_c tab_ok ?_; conv => whnf)
    | (refine side_id ?_; refine side_i (by first | rfl | exact ⟨rfl, rfl, rfl, rfl⟩ | trivial | (simp [allOne, partsOne, Value.cells, Value.oneCell']; done) | fail) ?_; conv => whnf)
    | (refine ar_id ?_; refine ar_in (by (first | (simp only [Int.reduceAdd, Int.reduceSub, Int.reduceMul, Int.reduceNeg, Int.reduceMod, Int.reduceDiv, Int.reduceTMod, Int.reduceTDiv, Int.zero_add, Int.add_zero]; done) | (simp only [Int.reduceAdd, Int.reduceSub, Int.reduceMul, Int.reduceNeg, Int.reduceMod, Int.reduceDiv, Int.reduceTMod, Int.reduceTDiv, Int.zero_add, Int.add_zero]; rfl) | rfl)) (by (dsimp only [inR]; first | decide | omega)) ?_; conv => whnf)
    | (refine new_i ?_; intro _; conv => whnf)
    | (refine br_id ?_; first
      | (refine br_t (by first | decide | omega | (with_reducible rfl) | fail | (simp only [cellEq, toB]; omega) | (simp only [cellEq, toB]; simp; done) | fail) ?_; conv => whnf)
      | (refine br_f (by first | decide | omega | (with_reducible exact Bool.false_ne_true) | (with_reducible refine not_not_intro ?_; fail) | (simp only [cellEq, toB]; omega) | (simp only [cellEq, toB]; simp; done) | fail) ?_; conv => whnf)
      | ((refine br_any (fun h => ?_) (fun h => ?_) <;> (try simp only [cellEq, toB, Bool.not_eq_true, Bool.not_eq_false] at h) <;> (try (exfalso; first | omega | contradiction | (simp at h; done) | fail); done) <;> conv => whnf)))
    | (refine ix_id ?_; first
      | (refine ix_lit (by first | decide | omega) (by (first | (simp only [Nat.zero_add, Nat.add_zero, Nat.mul_one, Nat.reduceAdd, Nat.reduceMul, Int.reduceToNat, Int.toNat_natCast, Int.toNat_zero, Int.toNat_one, Nat.zero_mul]; done) | (simp only [Nat.zero_add, Nat.add_zero, Nat.mul_one, Nat.reduceAdd, Nat.reduceMul, Int.reduceToNat, Int.toNat_natCast, Int.toNat_zero, Int.toNat_one, Nat.zero_mul]; rfl) | rfl)) (by rfl) ?_; conv => whnf)
      | (refine ix_sym (by omega) ?_; conv => whnf))
    | (refine lcall_id ?_; first | (refine lcall_ret (fun w' hl => awake2_S w') ?_; conv => whnf) | (refine lcall_ret (fun w' hl => vsub_S _ _ _ _ _ _ w' (by first | assumption | exact sat_i32 _ | exact crs_i32 _ _ _ _ _ | exact i32_of (by omega) (by omega)) (by first | assumption | exact sat_i32 _ | exact crs_i32 _ _ _ _ _ | exact i32_of (by omega) (by omega)) (by first | assumption | exact sat_i32 _ | exact crs_i32 _ _ _ _ _ | exact i32_of (by omega) (by omega)) (by first | assumption | exact sat_i32 _ | exact crs_i32 _ _ _ _ _ | exact i32_of (by omega) (by omega)) (by first | assumption | exact sat_i32 _ | exact crs_i32 _ _ _ _ _ | exact i32_of (by omega) (by omega)) (by first | assumption | exact sat_i32 _ | exact crs_i32 _ _ _ _ _ | exact i32_of (by omega) (by omega))) ?_; conv => whnf) | (refine lcall_ret (fun w' hl => vneg_S _ _ _ w' (by first | assumption | exact sat_i32 _ | exact crs_i32 _ _ _ _ _ | exact i32_of (by omega) (by omega)) (by first | assumption | exact sat_i32 _ | exact crs_i32 _ _ _ _ _ | exact i32_of (by omega) (by omega)) (by first | assumption | exact sat_i32 _ | exact crs_i32 _ _ _ _ _ | exact i32_of (by omega) (by omega))) ?_; conv => whnf) | (refine lcall_ret (fun w' hl => vscale_S _ _ _ _ _ w' (by first | assumption | exact sat_i32 _ | exact crs_i32 _ _ _ _ _ | exact i32_of (by omega) (by omega)) (by first | assumption | exact sat_i32 _ | exact crs_i32 _ _ _ _ _ | exact i32_of (by omega) (by omega)) (by first | assumption | exact sat_i32 _ | exact crs_i32 _ _ _ _ _ | exact i32_of (by omega) (by omega)) (by first | assumption | exact sat_i32 _ | exact crs_i32 _ _ _ _ _ | exact i32_of (by omega) (by omega))) ?_; conv => whnf) | (refine lcall_ret (fun w' hl => vcross_S _ _ _ _ _ _ _ w' (by first | assumption | exact sat_i32 _ | exact crs_i32 _ _ _ _ _ | exact i32_of (by omega) (by omega)) (by first | assumption | exact sat_i32 _ | exact crs_i32 _ _ _ _ _ | exact i32_of (by omega) (by omega)) (by first | assumption | exact sat_i32 _ | exact crs_i32 _ _ _ _ _ | exact i32_of (by omega) (by omega)) (by first | assumption | exact sat_i32 _ | exact crs_i32 _ _ _ _ _ | exact i32_of (by omega) (by omega)) (by first | assumption | exact sat_i32 _ | exact crs_i32 _ _ _ _ _ | exact i32_of (by omega) (by omega)) (by first | assumption | exact sat_i32 _ | exact crs_i32 _ _ _ _ _ | exact i32_of (by omega) (by omega))) ?_; conv => whnf) | (refine lcall_ret (fun w' hl => vdot_S _ _ _ _ _ _ w' (by first | assumption | exact sat_i32 _ | exact crs_i32 _ _ _ _ _ | exact i32_of (by omega) (by omega)) (by first | assumption | exact sat_i32 _ | exact crs_i32 _ _ _ _ _ | exact i32_of (by omega) (by omega)) (by first | assumption | exact sat_i32 _ | exact crs_i32 _ _ _ _ _ | exact i32_of (by omega) (by omega)) (by first | assumption | exact sat_i32 _ | exact crs_i32 _ _ _ _ _ | exact i32_of (by omega) (by omega)) (by first | assumption | exact sat_i32 _ | exact crs_i32 _ _ _ _ _ | exact i32_of (by omega) (by omega)) (by first | assumption | exact sat_i32 _ | exact crs_i32 _ _ _ _ _ | exact i32_of (by omega) (by omega))) ?_; conv => whnf) | (refine lcall_ret (fun w' hl => vzero_S _ _ _ w') ?_; conv => whnf) | (refine lcall_ret (fun w' hl => vadd3_C (vrT (vs := [⟨_, _, _⟩, ⟨_, _, _⟩, ⟨_, _, _⟩]) hl (by rfl) (by rfl)) (by first | assumption | exact sat_i32 _ | exact crs_i32 _ _ _ _ _ | exact i32_of (by omega) (by omega)) (by first | assumption | exact sat_i32 _ | exact crs_i32 _ _ _ _ _ | exact i32_of (by omega) (by omega)) (by first | assumption | exact sat_i32 _ | exact crs_i32 _ _ _ _ _ | exact i32_of (by omega) (by omega)) (by first | assumption | exact sat_i32 _ | exact crs_i32 _ _ _ _ _ | exact i32_of (by omega) (by omega)) (by first | assumption | exact sat_i32 _ | exact crs_i32 _ _ _ _ _ | exact i32_of (by omega) (by omega)) (by first | assumption | exact sat_i32 _ | exact crs_i32 _ _ _ _ _ | exact i32_of (by omega) (by omega)) (by first | assumption | exact sat_i32 _ | exact crs_i32 _ _ _ _ _ | exact i32_of (by omega) (by omega)) (by first | assumption | exact sat_i32 _ | exact crs_i32 _ _ _ _ _ | exact i32_of (by omega) (by omega)) (by first | assumption | exact sat_i32 _ | exact crs_i32 _ _ _ _ _ | exact i32_of (by omega) (by omega))) ?_; conv => whnf) | (refine lcall_ret (fun w' hl => vadd2_C (vrT (vs := [⟨_, _, _⟩, ⟨_, _, _⟩]) hl (by rfl) (by rfl)) (by first | assumption | exact sat_i32 _ | exact crs_i32 _ _ _ _ _ | exact i32_of (by omega) (by omega)) (by first | assumption | exact sat_i32 _ | exact crs_i32 _ _ _ _ _ | exact i32_of (by omega) (by omega)) (by first | assumption | exact sat_i32 _ | exact crs_i32 _ _ _ _ _ | exact i32_of (by omega) (by omega)) (by first | assumption | exact sat_i32 _ | exact crs_i32 _ _ _ _ _ | exact i32_of (by omega) (by omega)) (by first | assumption | exact sat_i32 _ | exact crs_i32 _ _ _ _ _ | exact i32_of (by omega) (by omega)) (by first | assumption | exact sat_i32 _ | exact crs_i32 _ _ _ _ _ | exact i32_of (by omega) (by omega))) ?_; conv => whnf) | (refine lcall_ret (fun w' hl => vadd0_S w' _) ?_; conv => whnf) | (refine lcall_ret (fun w' hl => power_S _ w') ?_; conv => whnf) | (refine lcall_ret (fun w' hl => down_S w' _ _ (by omega) hp.1) ?_; conv => whnf) | (refine lcall_ret (fun w' hl => rsat_S w' _) ?_; conv => whnf))
    | (refine lload_id ?_; first
      | (fail)
      | (refine load_old _ (by with_reducible assumption) (by simp; done) ?_; conv => whnf))
    | (refine lixs_id ?_; fail)
    | (refine ex_id ?_; refine ex_z (by (first | (simp only [Int.reduceAdd, Int.reduceSub, Int.reduceMul, Int.reduceNeg, Int.reduceMod, Int.reduceDiv, Int.reduceTMod, Int.reduceTDiv, Int.zero_add, Int.add_zero]; done) | (simp only [Int.reduceAdd, Int.reduceSub, Int.reduceMul, Int.reduceNeg, Int.reduceMod, Int.reduceDiv, Int.reduceTMod, Int.reduceTDiv, Int.zero_add, Int.add_zero]; rfl) | rfl)) ?_; conv => whnf)
    | (refine sh_id ?_; refine sh_z (by omega) (by (first | (simp only [Int.reduceAdd, Int.reduceSub, Int.reduceMul, Int.reduceNeg, Int.reduceMod, Int.reduceDiv, Int.reduceTMod, Int.reduceTDiv, Int.zero_add, Int.add_zero]; done) | (simp only [Int.reduceAdd, Int.reduceSub, Int.reduceMul, Int.reduceNeg, Int.reduceMod, Int.reduceDiv, Int.reduceTMod, Int.reduceTDiv, Int.zero_add, Int.add_zero]; rfl) | rfl)) ?_; conv => whnf)
    | (refine quo_id ?_; first
      | (refine quo_in (by omega) (by (first | (simp only [Int.reduceAdd, Int.reduceSub, Int.reduceMul, Int.reduceNeg, Int.reduceMod, Int.reduceDiv, Int.reduceTMod, Int.reduceTDiv, Int.zero_add, Int.add_zero]; done) | (simp only [Int.reduceAdd, Int.reduceSub, Int.reduceMul, Int.reduceNeg, Int.reduceMod, Int.reduceDiv, Int.reduceTMod, Int.reduceTDiv, Int.zero_add, Int.add_zero]; rfl) | rfl)) (by (dsimp only [inR]; first | decide | omega)) ?_; conv => whnf)
      | (refine quo_t (by omega) (by (dsimp only [inR]; first | decide | omega)) ?_; conv => whnf))
    | (refine rem_id ?_; first
      | (refine rem_in (by omega) (by (first | (simp only [Int.reduceAdd, Int.reduceSub, Int.reduceMul, Int.reduceNeg, Int.reduceMod, Int.reduceDiv, Int.reduceTMod, Int.reduceTDiv, Int.zero_add, Int.add_zero]; done) | (simp only [Int.reduceAdd, Int.reduceSub, Int.reduceMul, Int.reduceNeg, Int.reduceMod, Int.reduceDiv, Int.reduceTMod, Int.reduceTDiv, Int.zero_add, Int.add_zero]; rfl) | rfl)) ?_; conv => whnf)
      | (refine rem_t (by omega) ?_; conv => whnf))
    | (refine app_id ?_; refine app_i (by (first | (simp only [Nat.zero_add, Nat.add_zero, Nat.mul_one, Nat.reduceAdd, Nat.reduceMul, Int.reduceToNat, Int.toNat_natCast, Int.toNat_zero, Int.toNat_one, Nat.zero_mul]; done) | (simp only [Nat.zero_add, Nat.add_zero, Nat.mul_one, Nat.reduceAdd, Nat.reduceMul, Int.reduceToNat, Int.toNat_natCast, Int.toNat_zero, Int.toNat_one, Nat.zero_mul]; rfl) | rfl)) (by (first | (simp only [List.nil_append, List.cons_append, List.append_nil]; done) | (simp only [List.nil_append, List.cons_append, List.append_nil]; rfl) | rfl)) (by omega) (by omega) ?_; intro _ _; conv => whnf)
    | (refine sl_id ?_; fail)
    | (refine eff_id ?_; fail)
    | (refine val_id ?_; fail)
    | (refine x_rnd ?_)
    | (refine x_rnd' ?_)
    | (refine xdrw_id ?_; first | (refine x_drw tab_ok (id := 3) [] [] [0, 1, 2, 3, 4, 5, 6, 7, 8, 9, 10, 11, 12, 13, 14, 15, 16, 17, 18, 19, 20, 21] followsMixed (by kernel_rfl) (by rfl) (by rfl) ?_; conv => whnf) | (refine x_drw tab_ok (id := 7) [] [] [0, 1, 2, 3, 4, 5, 6, 7, 8, 9] followsMixed (by kernel_rfl) (by rfl) (by rfl) ?_; conv => whnf) | (refine x_drw tab_ok (id := 8) [] [] [0, 1, 2, 3, 4, 5, 6, 7, 8, 9, 10, 11, 12, 13, 14, 15, 16, 17, 18, 19, 20, 21, 22, 23, 24, 25, 26, 27, 28, 29, 30, 31, 32, 33, 34, 35, 36, 37, 38, 39, 40, 41, 42, 43, 44, 45] followsMixed (by kernel_rfl) (by rfl) (by rfl) ?_; conv => whnf) | (refine x_drw tab_ok (id := 11) [] [] [0, 1, 2, 3, 4, 5, 6, 7, 8, 9, 10, 11, 12, 13, 14, 15, 16, 17] followsMixed (by kernel_rfl) (by rfl) (by rfl) ?_; conv => whnf)))
  refine x_rounds 4 ?_
  repeat' (first
    | (fail)
    | (refine run_c tab_ok ?_; conv => whnf)
    | (refine side_id ?_; refine side_i (by first | rfl | exact ⟨rfl, rfl, rfl, rfl⟩ | trivial | (simp [allOne, partsOne, Value.cells, Value.oneCell']; done) | fail) ?_; conv => whnf)
    | (refine ar_id ?_; refine ar_in (by (first | (simp only [Int.reduceAdd, Int.reduceSub, Int.reduceMul, Int.reduceNeg, Int.reduceMod, Int.reduceDiv, Int.reduceTMod, Int.reduceTDiv, Int.zero_add, Int.add_zero]; done) | (simp only [Int.reduceAdd, Int.reduceSub, Int.reduceMul, Int.reduceNeg, Int.reduceMod, Int.reduceDiv, Int.reduceTMod, Int.reduceTDiv, Int.zero_add, Int.add_zero]; rfl) | rfl)) (by (dsimp only [inR]; first | decide | omega)) ?_; conv => whnf)
    | (refine new_i ?_; intro _; conv => whnf)
    | (refine br_id ?_; first
      | (refine br_t (by first | decide | omega | (with_reducible rfl) | fail | (simp only [cellEq, toB]; omega) | (simp only [cellEq, toB]; simp; done) | fail) ?_; conv => whnf)
      | (refine br_f (by first | decide | omega | (with_reducible exact Bool.false_ne_true) | (with_reducible refine not_not_intro ?_; fail) | (simp only [cellEq, toB]; omega) | (simp only [cellEq, toB]; simp; done) | fail) ?_; conv => whnf)
      | ((refine br_any (fun h => ?_) (fun h => ?_) <;> (try simp only [cellEq, toB, Bool.not_eq_true, Bool.not_eq_false] at h) <;> (try (exfalso; first | omega | contradiction | (simp at h; done) | fail); done) <;> conv => whnf)))
    | (refine ix_id ?_; first
      | (refine ix_lit (by first | decide | omega) (by (first | (simp only [Nat.zero_add, Nat.add_zero, Nat.mul_one, Nat.reduceAdd, Nat.reduceMul, Int.reduceToNat, Int.toNat_natCast, Int.toNat_zero, Int.toNat_one, Nat.zero_mul]; done) | (simp only [Nat.zero_add, Nat.add_zero, Nat.mul_one, Nat.reduceAdd, Nat.reduceMul, Int.reduceToNat, Int.toNat_natCast, Int.toNat_zero, Int.toNat_one, Nat.zero_mul]; rfl) | rfl)) (by rfl) ?_; conv => whnf)
      | (refine ix_sym (by omega) ?_; conv => whnf))
    | (refine lcall_id ?_; first | (refine lcall_ret (fun w' hl => awake2_S w') ?_; conv => whnf) | (refine lcall_ret (fun w' hl => vsub_S _ _ _ _ _ _ w' (by first | assumption | exact sat_i32 _ | exact crs_i32 _ _ _ _ _ | exact i32_of (by omega) (by omega)) (by first | assumption | exact sat_i32 _ | exact crs_i32 _ _ _ _ _ | exact i32_of (by omega) (by omega)) (by first | assumption | exact sat_i32 _ | exact crs_i32 _ _ _ _ _ | exact i32_of (by omega) (by omega)) (by first | assumption | exact sat_i32 _ | exact crs_i32 _ _ _ _ _ | exact i32_of (by omega) (by omega)) (by first | assumption | exact sat_i32 _ | exact crs_i32 _ _ _ _ _ | exact i32_of (by omega) (by omega)) (by first | assumption | exact sat_i32 _ | exact crs_i32 _ _ _ _ _ | exact i32_of (by omega) (by omega))) ?_; conv => whnf) | (refine lcall_ret (fun w' hl => vneg_S _ _ _ w' (by first | assumption | exact sat_i32 _ | exact crs_i32 _ _ _ _ _ | exact i32_of (by omega) (by omega)) (by first | assumption | exact sat_i32 _ | exact crs_i32 _ _ _ _ _ | exact i32_of (by omega) (by omega)) (by first | assumption | exact sat_i32 _ | exact crs_i32 _ _ _ _ _ | exact i32_of (by omega) (by omega))) ?_; conv => whnf) | (refine lcall_ret (fun w' hl => vscale_S _ _ _ _ _ w' (by first | assumption | exact sat_i32 _ | exact crs_i32 _ _ _ _ _ | exact i32_of (by omega) (by omega)) (by first | assumption | exact sat_i32 _ | exact crs_i32 _ _ _ _ _ | exact i32_of (by omega) (by omega)) (by first | assumption | exact sat_i32 _ | exact crs_i32 _ _ _ _ _ | exact i32_of (by omega) (by omega)) (by first | assumption | exact sat_i32 _ | exact crs_i32 _ _ _ _ _ | exact i32_of (by omega) (by omega))) ?_; conv => whnf) | (refine lcall_ret (fun w' hl => vcross_S _ _ _ _ _ _ _ w' (by first | assumption | exact sat_i32 _ | exact crs_i32 _ _ _ _ _ | exact i32_of (by omega) (by omega)) (by first | assumption | exact sat_i32 _ | exact crs_i32 _ _ _ _ _ | exact i32_of (by omega) (by omega)) (by first | assumption | exact sat_i32 _ | exact crs_i32 _ _ _ _ _ | exact i32_of (by omega) (by omega)) (by first | assumption | exact sat_i32 _ | exact crs_i32 _ _ _ _ _ | exact i32_of (by omega) (by omega)) (by first | assumption | exact sat_i32 _ | exact crs_i32 _ _ _ _ _ | exact i32_of (by omega) (by omega)) (by first | assumption | exact sat_i32 _ | exact crs_i32 _ _ _ _ _ | exact i32_of (by omega) (by omega))) ?_; conv => whnf) | (refine lcall_ret (fun w' hl => vdot_S _ _ _ _ _ _ w' (by first | assumption | exact sat_i32 _ | exact crs_i32 _ _ _ _ _ | exact i32_of (by omega) (by omega)) (by first | assumption | exact sat_i32 _ | exact crs_i32 _ _ _ _ _ | exact i32_of (by omega) (by omega)) (by first | assumption | exact sat_i32 _ | exact crs_i32 _ _ _ _ _ | exact i32_of (by omega) (by omega)) (by first | assumption | exact sat_i32 _ | exact crs_i32 _ _ _ _ _ | exact i32_of (by omega) (by omega)) (by first | assumption | exact sat_i32 _ | exact crs_i32 _ _ _ _ _ | exact i32_of (by omega) (by omega)) (by first | assumption | exact sat_i32 _ | exact crs_i32 _ _ _ _ _ | exact i32_of (by omega) (by omega))) ?_; conv => whnf) | (refine lcall_ret (fun w' hl => vzero_S _ _ _ w') ?_; conv => whnf) | (refine lcall_ret (fun w' hl => vadd3_C (vrT (vs := [⟨_, _, _⟩, ⟨_, _, _⟩, ⟨_, _, _⟩]) hl (by rfl) (by rfl)) (by first | assumption | exact sat_i32 _ | exact crs_i32 _ _ _ _ _ | exact i32_of (by omega) (by omega)) (by first | assumption | exact sat_i32 _ | exact crs_i32 _ _ _ _ _ | exact i32_of (by omega) (by omega)) (by first | assumption | exact sat_i32 _ | exact crs_i32 _ _ _ _ _ | exact i32_of (by omega) (by omega)) (by first | assumption | exact sat_i32 _ | exact crs_i32 _ _ _ _ _ | exact i32_of (by omega) (by omega)) (by first | assumption | exact sat_i32 _ | exact crs_i32 _ _ _ _ _ | exact i32_of (by omega) (by omega)) (by first | assumption | exact sat_i32 _ | exact crs_i32 _ _ _ _ _ | exact i32_of (by omega) (by omega)) (by first | assumption | exact sat_i32 _ | exact crs_i32 _ _ _ _ _ | exact i32_of (by omega) (by omega)) (by first | assumption | exact sat_i32 _ | exact crs_i32 _ _ _ _ _ | exact i32_of (by omega) (by omega)) (by first | assumption | exact sat_i32 _ | exact crs_i32 _ _ _ _ _ | exact i32_of (by omega) (by omega))) ?_; conv => whnf) | (refine lcall_ret (fun w' hl => vadd2_C (vrT (vs := [⟨_, _, _⟩, ⟨_, _, _⟩]) hl (by rfl) (by rfl)) (by first | assumption | exact sat_i32 _ | exact crs_i32 _ _ _ _ _ | exact i32_of (by omega) (by omega)) (by first | assumption | exact sat_i32 _ | exact crs_i32 _ _ _ _ _ | exact i32_of (by omega) (by omega)) (by first | assumption | exact sat_i32 _ | exact crs_i32 _ _ _ _ _ | exact i32_of (by omega) (by omega)) (by first | assumption | exact sat_i32 _ | exact crs_i32 _ _ _ _ _ | exact i32_of (by omega) (by omega)) (by first | assumption | exact sat_i32 _ | exact crs_i32 _ _ _ _ _ | exact i32_of (by omega) (by omega)) (by first | assumption | exact sat_i32 _ | exact crs_i32 _ _ _ _ _ | exact i32_of (by omega) (by omega))) ?_; conv => whnf) | (refine lcall_ret (fun w' hl => vadd0_S w' _) ?_; conv => whnf) | (refine lcall_ret (fun w' hl => power_S _ w') ?_; conv => whnf) | (refine lcall_ret (fun w' hl => down_S w' _ _ (by omega) hp.1) ?_; conv => whnf) | (refine lcall_ret (fun w' hl => rsat_S w' _) ?_; conv => whnf))
    | (refine lload_id ?_; first
      | (fail)
      | (refine load_old _ (by with_reducible assumption) (by simp; done) ?_; conv => whnf))
    | (refine lixs_id ?_; fail)
    | (refine ex_id ?_; refine ex_z (by (first | (simp only [Int.reduceAdd, Int.reduceSub, Int.reduceMul, Int.reduceNeg, Int.reduceMod, Int.reduceDiv, Int.reduceTMod, Int.reduceTDiv, Int.zero_add, Int.add_zero]; done) | (simp only [Int.reduceAdd, Int.reduceSub, Int.reduceMul, Int.reduceNeg, Int.reduceMod, Int.reduceDiv, Int.reduceTMod, Int.reduceTDiv, Int.zero_add, Int.add_zero]; rfl) | rfl)) ?_; conv => whnf)
    | (refine sh_id ?_; refine sh_z (by omega) (by (first | (simp only [Int.reduceAdd, Int.reduceSub, Int.reduceMul, Int.reduceNeg, Int.reduceMod, Int.reduceDiv, Int.reduceTMod, Int.reduceTDiv, Int.zero_add, Int.add_zero]; done) | (simp only [Int.reduceAdd, Int.reduceSub, Int.reduceMul, Int.reduceNeg, Int.reduceMod, Int.reduceDiv, Int.reduceTMod, Int.reduceTDiv, Int.zero_add, Int.add_zero]; rfl) | rfl)) ?_; conv => whnf)
    | (refine quo_id ?_; first
      | (refine quo_in (by omega) (by (first | (simp only [Int.reduceAdd, Int.reduceSub, Int.reduceMul, Int.reduceNeg, Int.reduceMod, Int.reduceDiv, Int.reduceTMod, Int.reduceTDiv, Int.zero_add, Int.add_zero]; done) | (simp only [Int.reduceAdd, Int.reduceSub, Int.reduceMul, Int.reduceNeg, Int.reduceMod, Int.reduceDiv, Int.reduceTMod, Int.reduceTDiv, Int.zero_add, Int.add_zero]; rfl) | rfl)) (by (dsimp only [inR]; first | decide | omega)) ?_; conv => whnf)
      | (refine quo_t (by omega) (by (dsimp only [inR]; first | decide | omega)) ?_; conv => whnf))
    | (refine rem_id ?_; first
      | (refine rem_in (by omega) (by (first | (simp only [Int.reduceAdd, Int.reduceSub, Int.reduceMul, Int.reduceNeg, Int.reduceMod, Int.reduceDiv, Int.reduceTMod, Int.reduceTDiv, Int.zero_add, Int.add_zero]; done) | (simp only [Int.reduceAdd, Int.reduceSub, Int.reduceMul, Int.reduceNeg, Int.reduceMod, Int.reduceDiv, Int.reduceTMod, Int.reduceTDiv, Int.zero_add, Int.add_zero]; rfl) | rfl)) ?_; conv => whnf)
      | (refine rem_t (by omega) ?_; conv => whnf))
    | (refine app_id ?_; refine app_i (by (first | (simp only [Nat.zero_add, Nat.add_zero, Nat.mul_one, Nat.reduceAdd, Nat.reduceMul, Int.reduceToNat, Int.toNat_natCast, Int.toNat_zero, Int.toNat_one, Nat.zero_mul]; done) | (simp only [Nat.zero_add, Nat.add_zero, Nat.mul_one, Nat.reduceAdd, Nat.reduceMul, Int.reduceToNat, Int.toNat_natCast, Int.toNat_zero, Int.toNat_one, Nat.zero_mul]; rfl) | rfl)) (by (first | (simp only [List.nil_append, List.cons_append, List.append_nil]; done) | (simp only [List.nil_append, List.cons_append, List.append_nil]; rfl) | rfl)) (by omega) (by omega) ?_; intro _ _; conv => whnf)
    | (refine sl_id ?_; fail)
    | (refine eff_id ?_; fail)
    | (refine val_id ?_; fail)
    | (refine x_rnd ?_)
    | (refine x_rnd' ?_)
    | (refine xdrw_id ?_; first | (refine x_drw tab_ok (id := 3) [] [] [0, 1, 2, 3, 4, 5, 6, 7, 8, 9, 10, 11, 12, 13, 14, 15, 16, 17, 18, 19, 20, 21] followsMixed (by kernel_rfl) (by rfl) (by rfl) ?_; conv => whnf) | (refine x_drw tab_ok (id := 7) [] [] [0, 1, 2, 3, 4, 5, 6, 7, 8, 9] followsMixed (by kernel_rfl) (by rfl) (by rfl) ?_; conv => whnf) | (refine x_drw tab_ok (id := 8) [] [] [0, 1, 2, 3, 4, 5, 6, 7, 8, 9, 10, 11, 12, 13, 14, 15, 16, 17, 18, 19, 20, 21, 22, 23, 24, 25, 26, 27, 28, 29, 30, 31, 32, 33, 34, 35, 36, 37, 38, 39, 40, 41, 42, 43, 44, 45] followsMixed (by kernel_rfl) (by rfl) (by rfl) ?_; conv => whnf) | (refine x_drw tab_ok (id := 11) [] [] [0, 1, 2, 3, 4, 5, 6, 7, 8, 9, 10, 11, 12, 13, 14, 15, 16, 17] followsMixed (by kernel_rfl) (by rfl) (by rfl) ?_; conv => whnf)))
  all_goals (
    (refine fin_ret ?_)
    simp [SV.den, sat_zero])
theorem vecParts_walk (a b c : List Value) (k q : Int) (w : World) (h : skB [.i .i32, .i .i32, .i .i32] a = true) (hw : wfC a) (h' : skB [.i .i32, .i .i32, .i .i32] b = true) (hw' : wfC b) (h'' : skB [.i .i32, .i .i32, .i .i32] c = true) (hw'' : wfC c) (hk : inR .i32 k) (hq : inR .i64 q) :
    Calls Try.prog 9 #[.agg a.toArray, .agg b.toArray, .agg c.toArray, .int .i32 k, .int .i64 q] w fun e w' => e = .returned (.bool true) ∧ Below w.heap.size w w' := by
  obtain ⟨a, b, c, rfl, ha, hb, hc⟩ := v3_of h hw
  obtain ⟨a', b', c', rfl, ha', hb', hc'⟩ := v3_of h' hw'
  obtain ⟨a'', b'', c'', rfl, ha'', hb'', hc''⟩ := v3_of h'' hw''
  exact (vecParts_ret _ _ _ _ _ _ _ _ _ k q w ha hb hc ha' hb' hc' ha'' hb'' hc'' hk).below

end Go.Proofs.Ytfnailajblfckaa
