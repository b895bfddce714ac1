/- Layer 19 (retry): what is spent in one go is what is spent one by one. -/
import Derived.Test.YtihboegopigkmaaRa
import Derived.Test.YtihboegopigkmaaFl
namespace Go.Proofs.Ytihboegopigkmaa
set_option linter.unusedSimpArgs false
set_option linter.unusedVariables false
set_option linter.unnecessarySimpa false
set_option maxRecDepth 100000
open Go.RowKit

theorem six_of {cs : List Value} (h : skB [.i .u8, .i .u8, .i .u8, .i .u8, .i .u8, .i .u8] cs = true) (hw : wfC cs) : ∃ l : Six, cs = dens [u8 l.x0, u8 l.x1, u8 l.x2, u8 l.x3, u8 l.x4, u8 l.x5] ∧ l.ok := by
  obtain ⟨a0, l1, rfl, i0, h, hw⟩ := sk_i h hw
  obtain ⟨a1, l1, rfl, i1, h, hw⟩ := sk_i h hw
  obtain ⟨a2, l1, rfl, i2, h, hw⟩ := sk_i h hw
  obtain ⟨a3, l1, rfl, i3, h, hw⟩ := sk_i h hw
  obtain ⟨a4, l1, rfl, i4, h, hw⟩ := sk_i h hw
  obtain ⟨a5, l1, rfl, i5, h, hw⟩ := sk_i h hw
  obtain rfl := sk_nil h
  simp only [inR] at i0 i1 i2 i3 i4 i5
  exact ⟨⟨a0, a1, a2, a3, a4, a5⟩, rfl, by unfold Six.ok; dsimp only; omega⟩
/-- Whether a context's numbers are within their types. -/
def Ctx.ok (c : Ctx) : Prop := inR .u16 c.a ∧ inR .u16 c.b ∧ c.r.ok ∧ inR .i8 c.c0 ∧ inR .i8 c.c1 ∧ inR .i8 c.c2 ∧ inR .i8 c.c3 ∧ inR .i8 c.c4 ∧ inR .i8 c.c5 ∧ inR .u8 c.m ∧ inR .u16 c.z ∧ inR .u8 c.h
theorem ctx_of {cs : List Value} (h : skB [.i .u16, .i .u16, .i .u8, .i .u8, .i .u8, .i .u8, .i .u8, .i .u8, .i .i8, .i .i8, .i .i8, .i .i8, .i .i8, .i .i8, .i .u8, .i .u16, .b, .i .u8] cs = true) (hw : wfC cs) :
    ∃ c : Ctx, cs = dens c.cells ∧ c.ok := by
  obtain ⟨a0, l1, rfl, i0, h, hw⟩ := sk_i h hw
  obtain ⟨a1, l1, rfl, i1, h, hw⟩ := sk_i h hw
  obtain ⟨r0, l1, rfl, j0, h, hw⟩ := sk_i h hw
  obtain ⟨r1, l1, rfl, j1, h, hw⟩ := sk_i h hw
  obtain ⟨r2, l1, rfl, j2, h, hw⟩ := sk_i h hw
  obtain ⟨r3, l1, rfl, j3, h, hw⟩ := sk_i h hw
  obtain ⟨r4, l1, rfl, j4, h, hw⟩ := sk_i h hw
  obtain ⟨r5, l1, rfl, j5, h, hw⟩ := sk_i h hw
  obtain ⟨c0, l1, rfl, k0, h, hw⟩ := sk_i h hw
  obtain ⟨c1, l1, rfl, k1, h, hw⟩ := sk_i h hw
  obtain ⟨c2, l1, rfl, k2, h, hw⟩ := sk_i h hw
  obtain ⟨c3, l1, rfl, k3, h, hw⟩ := sk_i h hw
  obtain ⟨c4, l1, rfl, k4, h, hw⟩ := sk_i h hw
  obtain ⟨c5, l1, rfl, k5, h, hw⟩ := sk_i h hw
  obtain ⟨m, l1, rfl, m0, h, hw⟩ := sk_i h hw
  obtain ⟨z, l1, rfl, z0, h, hw⟩ := sk_i h hw
  obtain ⟨x, l1, rfl, h, hw⟩ := sk_b h hw
  obtain ⟨y, l1, rfl, y0, h, hw⟩ := sk_i h hw
  obtain rfl := sk_nil h
  simp only [inR] at j0 j1 j2 j3 j4 j5
  exact ⟨⟨a0, a1, ⟨r0, r1, r2, r3, r4, r5⟩, c0, c1, c2, c3, c4, c5, m, z, x, y⟩, rfl, i0, i1, by unfold Six.ok; dsimp only; omega, k0, k1, k2, k3, k4, k5, m0, z0, y0⟩
theorem spend_one (l : Six) (c : Ctx) (x : Int) : spend l c [x] = again l c x := by
  simp only [spend]
  cases again l c x <;> rfl
theorem spend_some_of {l : Six} {c : Ctx} {xs : List Int} (h : (spend l c xs).isSome = true) : spend l c xs = some (spent l c xs) := by
  unfold spent
  cases hs : spend l c xs with
  | none => rw [hs] at h; cases h
  | some e => rfl
theorem ctx_eq (c : Ctx) : cellEq c.cells c.cells := by simp [cellEq, toB, Ctx.cells]
set_option maxHeartbeats 1000000 in
theorem retryOnce_ret (l : Six) (c : Ctx) (h : Nat) (A : Option Addr) (n cp : Nat) (zs : List Int) (w : World) (hl : l.ok) (hc : c.r.ok) (hr : IRow .i64 w A n zs) (hn : n ≤ 9223372036854775807) :
    RetS Try.prog 3 [l.sv, c.sv, .sl h A n cp] w (.lit true) := by
  obtain ⟨ys, hys⟩ : ∃ ys, ys = zs.take (9 : Int).toNat := ⟨_, rfl⟩
  have hle : ys.length ≤ 9 := by rw [hys, List.length_take]; exact Nat.min_le_left _ _
  have few : ∀ w', Below w.heap.size w w' → RetX Try.prog 9 [.sl h A n cp, i64 9] w' [] (FewR 900 ys) := fun w' hb => by
    rw [hys]; exact few_X 900 h A n cp zs 9 w' (hr.below hb) hn (by omega)
  obtain ⟨s0, hs0⟩ : ∃ s, s = spent l c ys := ⟨_, rfl⟩
  obtain ⟨k0, hk0⟩ : ∃ k, k = spok l c ys := ⟨_, rfl⟩
  have sp : ∀ w' h' B d, IRow .i64 w' B ys.length ys → RetS Try.prog 10 [l.sv, c.sv, .sl h' B ys.length d] w' (.tup [s0.sv, .boo k0]) := fun w' h' B d hB => by
    rw [hs0, hk0]; exact spend_S l c h' B _ d ys w' hB (by omega) hl hc
  have sp0 : ∀ w' h', RetS Try.prog 10 [l.sv, c.sv, .sl h' none 0 0] w' (.tup [c.sv, .lit true]) := fun w' h' => ⟨(spend_S l c h' none 0 0 [] w' (IRow.nil _ _ _) (by omega) hl hc).go⟩
  clear hys
  refine ret_x tab_ok Try.func3 rfl Try.ntmps3 (by rfl) ?_; simp only [argX, Nat.reduceAdd, Nat.zero_add]; conv => whnf
  repeat' (first
    | (fail)
    | (refine run_c tab_ok ?_; conv => whnf)
    | (refine side_id ?_; refine side_i (by first | rfl | exact ⟨rfl, rfl, rfl, rfl⟩ | trivial | (simp [allOne, partsOne, Value.cells, Value.oneCell']; done) | fail) ?_; conv => whnf)
    | (refine ar_id ?_; refine ar_in (by (first | (simp only [Int.reduceAdd, Int.reduceSub, Int.reduceMul, Int.reduceNeg, Int.reduceMod, Int.reduceDiv, Int.reduceTMod, Int.reduceTDiv, Int.zero_add, Int.add_zero]; done) | (simp only [Int.reduceAdd, Int.reduceSub, Int.reduceMul, Int.reduceNeg, Int.reduceMod, Int.reduceDiv, Int.reduceTMod, Int.reduceTDiv, Int.zero_add, Int.add_zero]; rfl) | rfl)) (by (dsimp only [inR]; first | decide | omega)) ?_; conv => whnf)
    | (refine new_i ?_; intro _; conv => whnf)
    | (refine br_id ?_; first
      | (refine br_t (by first | decide | omega | (with_reducible rfl) | (with_reducible exact ctx_eq _) | (simp only [cellEq, toB]; omega) | (simp only [cellEq, toB]; simp; done) | fail) ?_; conv => whnf)
      | (refine br_f (by first | decide | omega | (with_reducible exact Bool.false_ne_true) | (with_reducible refine not_not_intro ?_; (with_reducible exact ctx_eq _)) | (simp only [cellEq, toB]; omega) | (simp only [cellEq, toB]; simp; done) | fail) ?_; conv => whnf)
      | ((refine br_any (fun h => ?_) (fun h => ?_) <;> (try simp only [cellEq, toB, Bool.not_eq_true, Bool.not_eq_false] at h) <;> (try (exfalso; first | omega | contradiction | (simp at h; done) | fail); done) <;> conv => whnf)))
    | (refine ix_id ?_; first
      | (refine ix_lit (by first | decide | omega) (by (first | (simp only [Nat.zero_add, Nat.add_zero, Nat.mul_one, Nat.reduceAdd, Nat.reduceMul, Int.reduceToNat, Int.toNat_natCast, Int.toNat_zero, Int.toNat_one, Nat.zero_mul]; done) | (simp only [Nat.zero_add, Nat.add_zero, Nat.mul_one, Nat.reduceAdd, Nat.reduceMul, Int.reduceToNat, Int.toNat_natCast, Int.toNat_zero, Int.toNat_one, Nat.zero_mul]; rfl) | rfl)) (by rfl) ?_; conv => whnf)
      | (refine ix_sym (by omega) ?_; conv => whnf))
    | (refine lcall_id ?_; first | (refine lcall_ret (fun w' hloc => awake_S w') ?_; conv => whnf) | (refine lcall_mk (fun w' hloc => few w' hloc.below) ?_; (rintro _ _ mm ⟨A', c', rfl, rfl⟩ hmm; simp only [List.cons_append, List.nil_append] at hmm; subst hmm; conv => whnf)) | (refine lcall_ret (fun w' hloc => sp w' _ _ _ (row_irow hloc (by (repeat (first | (with_reducible exact am_blk) | (with_reducible exact am_row) | (with_reducible exact am_blkV) | (with_reducible exact am_oth) | (with_reducible apply am_tail)))))) ?_; conv => whnf) | (refine lcall_ret (fun w' hloc => sp0 w' _) ?_; conv => whnf) | (refine lcall_ret (fun w' hloc => spend_B l o _ _ [ys.getD j 0] 1 1 w' (irow_tag hloc (by rfl) (by rfl)) (by omega) hl hok) ?_; conv => whnf))
    | (refine lload_id ?_; first
      | ((refine load_rowN (by with_reducible assumption) (by (repeat (first | (with_reducible exact am_blk) | (with_reducible exact am_row) | (with_reducible exact am_blkV) | (with_reducible exact am_oth) | (with_reducible apply am_tail)))) (by omega) ?_; conv => whnf))
      | (refine load_old _ (by with_reducible assumption) (by simp; done) ?_; conv => whnf))
    | (refine lixs_id ?_; (refine ixs_row hA (by omega) ?_; intro _ _; conv => whnf))
    | (refine ex_id ?_; refine ex_z (by (first | (simp only [Int.reduceAdd, Int.reduceSub, Int.reduceMul, Int.reduceNeg, Int.reduceMod, Int.reduceDiv, Int.reduceTMod, Int.reduceTDiv, Int.zero_add, Int.add_zero]; done) | (simp only [Int.reduceAdd, Int.reduceSub, Int.reduceMul, Int.reduceNeg, Int.reduceMod, Int.reduceDiv, Int.reduceTMod, Int.reduceTDiv, Int.zero_add, Int.add_zero]; rfl) | rfl)) ?_; conv => whnf)
    | (refine sh_id ?_; refine sh_z (by omega) (by (first | (simp only [Int.reduceAdd, Int.reduceSub, Int.reduceMul, Int.reduceNeg, Int.reduceMod, Int.reduceDiv, Int.reduceTMod, Int.reduceTDiv, Int.zero_add, Int.add_zero]; done) | (simp only [Int.reduceAdd, Int.reduceSub, Int.reduceMul, Int.reduceNeg, Int.reduceMod, Int.reduceDiv, Int.reduceTMod, Int.reduceTDiv, Int.zero_add, Int.add_zero]; rfl) | rfl)) ?_; conv => whnf)
    | (refine quo_id ?_; first
      | (refine quo_in (by omega) (by (first | (simp only [Int.reduceAdd, Int.reduceSub, Int.reduceMul, Int.reduceNeg, Int.reduceMod, Int.reduceDiv, Int.reduceTMod, Int.reduceTDiv, Int.zero_add, Int.add_zero]; done) | (simp only [Int.reduceAdd, Int.reduceSub, Int.reduceMul, Int.reduceNeg, Int.reduceMod, Int.reduceDiv, Int.reduceTMod, Int.reduceTDiv, Int.zero_add, Int.add_zero]; rfl) | rfl)) (by (dsimp only [inR]; first | decide | omega)) ?_; conv => whnf)
      | (refine quo_t (by omega) (by (dsimp only [inR]; first | decide | omega)) ?_; conv => whnf))
    | (refine rem_id ?_; first
      | (refine rem_in (by omega) (by (first | (simp only [Int.reduceAdd, Int.reduceSub, Int.reduceMul, Int.reduceNeg, Int.reduceMod, Int.reduceDiv, Int.reduceTMod, Int.reduceTDiv, Int.zero_add, Int.add_zero]; done) | (simp only [Int.reduceAdd, Int.reduceSub, Int.reduceMul, Int.reduceNeg, Int.reduceMod, Int.reduceDiv, Int.reduceTMod, Int.reduceTDiv, Int.zero_add, Int.add_zero]; rfl) | rfl)) ?_; conv => whnf)
      | (refine rem_t (by omega) ?_; conv => whnf))
    | (refine app_id ?_; refine app_i (by (first | (simp only [Nat.zero_add, Nat.add_zero, Nat.mul_one, Nat.reduceAdd, Nat.reduceMul, Int.reduceToNat, Int.toNat_natCast, Int.toNat_zero, Int.toNat_one, Nat.zero_mul]; done) | (simp only [Nat.zero_add, Nat.add_zero, Nat.mul_one, Nat.reduceAdd, Nat.reduceMul, Int.reduceToNat, Int.toNat_natCast, Int.toNat_zero, Int.toNat_one, Nat.zero_mul]; rfl) | rfl)) (by (first | (simp only [List.nil_append, List.cons_append, List.append_nil]; done) | (simp only [List.nil_append, List.cons_append, List.append_nil]; rfl) | rfl)) (by omega) (by omega) ?_; intro _ _; conv => whnf)
    | (refine sl_id ?_; fail)
    | (refine eff_id ?_; fail)
    | (refine val_id ?_; fail)
    | (refine x_rnd ?_)
    | (refine x_rnd' ?_)
    | (refine xdrw_id ?_; fail))
  rename_i b9
  refine x_knowL (fun w' hloc => row_some hloc (by (repeat (first | (with_reducible exact am_blk) | (with_reducible exact am_row) | (with_reducible exact am_blkV) | (with_reducible exact am_oth) | (with_reducible apply am_tail))))) ?_
  intro hA
  refine x_loopA [9] (fun x : Nat × Ctx × Bool => [(29, i64 x.1), (10, .boo x.2.2)]) (fun x => [.blk 9 29 b9 x.2.1.cells]) (fun x => x.1 ≤ ys.length ∧ x.2.1.r.ok ∧ x.2.2 = (spend l c (ys.take x.1)).isSome ∧ ∀ e, spend l c (ys.take x.1) = some e → x.2.1 = e) (fun x => ys.length - x.1) (0, c, true) (by rfl) (by rfl) (by rfl) ⟨by omega, hc, by simp [spend], by simp [spend]⟩ (by (repeat (first | exact trivial | ((conv => whnf); refine And.intro (by first | rfl | exact congrArg (Value.int _) (by omega)) ?_)))) (by (repeat (first | exact trivial | ((conv => whnf); refine And.intro (by rfl) ?_)))) ?_
  rintro ⟨j, o, b⟩ ⟨hj, hok, hb, he⟩
  dsimp only [appF, appM] at hj hok hb he ⊢
  by_cases hlt : j < ys.length
  · skip
    repeat' (first
      | (fail)
      | (refine run_c tab_ok ?_; conv => whnf)
      | (refine side_id ?_; refine side_i (by first | rfl | exact ⟨rfl, rfl, rfl, rfl⟩ | trivial | (simp [allOne, partsOne, Value.cells, Value.oneCell']; done) | fail) ?_; conv => whnf)
      | (refine ar_id ?_; refine ar_in (by (first | (simp only [Int.reduceAdd, Int.reduceSub, Int.reduceMul, Int.reduceNeg, Int.reduceMod, Int.reduceDiv, Int.reduceTMod, Int.reduceTDiv, Int.zero_add, Int.add_zero]; done) | (simp only [Int.reduceAdd, Int.reduceSub, Int.reduceMul, Int.reduceNeg, Int.reduceMod, Int.reduceDiv, Int.reduceTMod, Int.reduceTDiv, Int.zero_add, Int.add_zero]; rfl) | rfl)) (by (dsimp only [inR]; first | decide | omega)) ?_; conv => whnf)
      | (refine new_i ?_; intro _; conv => whnf)
      | (refine br_id ?_; first
        | (refine br_t (by first | decide | omega | (with_reducible rfl) | (with_reducible exact ctx_eq _) | (simp only [cellEq, toB]; omega) | (simp only [cellEq, toB]; simp; done) | fail) ?_; conv => whnf)
        | (refine br_f (by first | decide | omega | (with_reducible exact Bool.false_ne_true) | (with_reducible refine not_not_intro ?_; (with_reducible exact ctx_eq _)) | (simp only [cellEq, toB]; omega) | (simp only [cellEq, toB]; simp; done) | fail) ?_; conv => whnf)
        | ((refine br_any (fun h => ?_) (fun h => ?_) <;> (try simp only [cellEq, toB, Bool.not_eq_true, Bool.not_eq_false] at h) <;> (try (exfalso; first | omega | contradiction | (simp at h; done) | fail); done) <;> conv => whnf)))
      | (refine ix_id ?_; first
        | (refine ix_lit (by first | decide | omega) (by (first | (simp only [Nat.zero_add, Nat.add_zero, Nat.mul_one, Nat.reduceAdd, Nat.reduceMul, Int.reduceToNat, Int.toNat_natCast, Int.toNat_zero, Int.toNat_one, Nat.zero_mul]; done) | (simp only [Nat.zero_add, Nat.add_zero, Nat.mul_one, Nat.reduceAdd, Nat.reduceMul, Int.reduceToNat, Int.toNat_natCast, Int.toNat_zero, Int.toNat_one, Nat.zero_mul]; rfl) | rfl)) (by rfl) ?_; conv => whnf)
        | (refine ix_sym (by omega) ?_; conv => whnf))
      | (refine lcall_id ?_; first | (refine lcall_ret (fun w' hloc => awake_S w') ?_; conv => whnf) | (refine lcall_mk (fun w' hloc => few w' hloc.below) ?_; (rintro _ _ mm ⟨A', c', rfl, rfl⟩ hmm; simp only [List.cons_append, List.nil_append] at hmm; subst hmm; conv => whnf)) | (refine lcall_ret (fun w' hloc => sp w' _ _ _ (row_irow hloc (by (repeat (first | (with_reducible exact am_blk) | (with_reducible exact am_row) | (with_reducible exact am_blkV) | (with_reducible exact am_oth) | (with_reducible apply am_tail)))))) ?_; conv => whnf) | (refine lcall_ret (fun w' hloc => sp0 w' _) ?_; conv => whnf) | (refine lcall_ret (fun w' hloc => spend_B l o _ _ [ys.getD j 0] 1 1 w' (irow_tag hloc (by rfl) (by rfl)) (by omega) hl hok) ?_; conv => whnf))
      | (refine lload_id ?_; first
        | ((refine load_rowN (by with_reducible assumption) (by (repeat (first | (with_reducible exact am_blk) | (with_reducible exact am_row) | (with_reducible exact am_blkV) | (with_reducible exact am_oth) | (with_reducible apply am_tail)))) (by omega) ?_; conv => whnf))
        | (refine load_old _ (by with_reducible assumption) (by simp; done) ?_; conv => whnf))
      | (refine lixs_id ?_; (refine ixs_row hA (by omega) ?_; intro _ _; conv => whnf))
      | (refine ex_id ?_; refine ex_z (by (first | (simp only [Int.reduceAdd, Int.reduceSub, Int.reduceMul, Int.reduceNeg, Int.reduceMod, Int.reduceDiv, Int.reduceTMod, Int.reduceTDiv, Int.zero_add, Int.add_zero]; done) | (simp only [Int.reduceAdd, Int.reduceSub, Int.reduceMul, Int.reduceNeg, Int.reduceMod, Int.reduceDiv, Int.reduceTMod, Int.reduceTDiv, Int.zero_add, Int.add_zero]; rfl) | rfl)) ?_; conv => whnf)
      | (refine sh_id ?_; refine sh_z (by omega) (by (first | (simp only [Int.reduceAdd, Int.reduceSub, Int.reduceMul, Int.reduceNeg, Int.reduceMod, Int.reduceDiv, Int.reduceTMod, Int.reduceTDiv, Int.zero_add, Int.add_zero]; done) | (simp only [Int.reduceAdd, Int.reduceSub, Int.reduceMul, Int.reduceNeg, Int.reduceMod, Int.reduceDiv, Int.reduceTMod, Int.reduceTDiv, Int.zero_add, Int.add_zero]; rfl) | rfl)) ?_; conv => whnf)
      | (refine quo_id ?_; first
        | (refine quo_in (by omega) (by (first | (simp only [Int.reduceAdd, Int.reduceSub, Int.reduceMul, Int.reduceNeg, Int.reduceMod, Int.reduceDiv, Int.reduceTMod, Int.reduceTDiv, Int.zero_add, Int.add_zero]; done) | (simp only [Int.reduceAdd, Int.reduceSub, Int.reduceMul, Int.reduceNeg, Int.reduceMod, Int.reduceDiv, Int.reduceTMod, Int.reduceTDiv, Int.zero_add, Int.add_zero]; rfl) | rfl)) (by (dsimp only [inR]; first | decide | omega)) ?_; conv => whnf)
        | (refine quo_t (by omega) (by (dsimp only [inR]; first | decide | omega)) ?_; conv => whnf))
      | (refine rem_id ?_; first
        | (refine rem_in (by omega) (by (first | (simp only [Int.reduceAdd, Int.reduceSub, Int.reduceMul, Int.reduceNeg, Int.reduceMod, Int.reduceDiv, Int.reduceTMod, Int.reduceTDiv, Int.zero_add, Int.add_zero]; done) | (simp only [Int.reduceAdd, Int.reduceSub, Int.reduceMul, Int.reduceNeg, Int.reduceMod, Int.reduceDiv, Int.reduceTMod, Int.reduceTDiv, Int.zero_add, Int.add_zero]; rfl) | rfl)) ?_; conv => whnf)
        | (refine rem_t (by omega) ?_; conv => whnf))
      | (refine app_id ?_; refine app_i (by (first | (simp only [Nat.zero_add, Nat.add_zero, Nat.mul_one, Nat.reduceAdd, Nat.reduceMul, Int.reduceToNat, Int.toNat_natCast, Int.toNat_zero, Int.toNat_one, Nat.zero_mul]; done) | (simp only [Nat.zero_add, Nat.add_zero, Nat.mul_one, Nat.reduceAdd, Nat.reduceMul, Int.reduceToNat, Int.toNat_natCast, Int.toNat_zero, Int.toNat_one, Nat.zero_mul]; rfl) | rfl)) (by (first | (simp only [List.nil_append, List.cons_append, List.append_nil]; done) | (simp only [List.nil_append, List.cons_append, List.append_nil]; rfl) | rfl)) (by omega) (by omega) ?_; intro _ _; conv => whnf)
      | (refine sl_id ?_; fail)
      | (refine eff_id ?_; fail)
      | (refine val_id ?_; fail)
      | (refine x_rnd ?_)
      | (refine x_rnd' ?_)
      | (refine xdrw_id ?_; fail))
    · subst h
      have hs := spend_some_of hb.symm
      have ho := he _ hs
      refine x_roundA (j + 1, spent l o [ys.getD j 0], spok l o [ys.getD j 0]) ⟨by dsimp only; omega, ?_, ?_, ?_⟩ (by dsimp only; omega) (by (repeat (first | exact trivial | ((conv => whnf); refine And.intro (by first | rfl | exact congrArg (Value.int _) (by omega)) ?_)))) (by (repeat (first | exact trivial | ((conv => whnf); refine And.intro rfl ?_)))) (by (repeat (first | exact trivial | ((conv => whnf); refine And.intro (by rfl) ?_))))
      · dsimp only
        unfold spent
        cases hx : spend l o [ys.getD j 0] with
        | none => exact hok
        | some e => exact spend_ok hok hl hx
      · dsimp only
        rw [spend_snoc hlt hs, ← ho]
        unfold spok
        rw [spend_one]
      · dsimp only
        rw [spend_snoc hlt hs, ← ho]
        unfold spent
        rw [spend_one]
        intro e h1
        rw [h1]
        rfl
    · have hn : spend l c (ys.take j) = none := by
        rw [h] at hb
        simpa using hb.symm
      have hn2 : spend l c (ys.take (j + 1)) = none := by
        rw [take_snoc ys j hlt, spend_append, hn]; rfl
      refine x_roundA (j + 1, o, b) ⟨by dsimp only; omega, hok, ?_, ?_⟩ (by dsimp only; omega) (by (repeat (first | exact trivial | ((conv => whnf); refine And.intro (by first | rfl | exact congrArg (Value.int _) (by omega)) ?_)))) (by (repeat (first | exact trivial | ((conv => whnf); refine And.intro rfl ?_)))) (by (repeat (first | exact trivial | ((conv => whnf); refine And.intro (by rfl) ?_))))
      · dsimp only
        rw [hn2, h]; rfl
      · dsimp only
        rw [hn2]
        intro e h1
        cases h1
  · obtain rfl : j = ys.length := by omega
    rw [List.take_length] at hb he
    have hb : b = k0 := by rw [hb, hk0]; rfl
    subst hb
    cases b with
    | true =>
      have hs := spend_some_of (show (spend l c ys).isSome = true from hk0.symm)
      obtain rfl : o = s0 := by rw [hs0]; exact he _ hs
      clear he
      repeat' (first
        | (fail)
        | (refine run_c tab_ok ?_; conv => whnf)
        | (refine side_id ?_; refine side_i (by first | rfl | exact ⟨rfl, rfl, rfl, rfl⟩ | trivial | (simp [allOne, partsOne, Value.cells, Value.oneCell']; done) | fail) ?_; conv => whnf)
        | (refine ar_id ?_; refine ar_in (by (first | (simp only [Int.reduceAdd, Int.reduceSub, Int.reduceMul, Int.reduceNeg, Int.reduceMod, Int.reduceDiv, Int.reduceTMod, Int.reduceTDiv, Int.zero_add, Int.add_zero]; done) | (simp only [Int.reduceAdd, Int.reduceSub, Int.reduceMul, Int.reduceNeg, Int.reduceMod, Int.reduceDiv, Int.reduceTMod, Int.reduceTDiv, Int.zero_add, Int.add_zero]; rfl) | rfl)) (by (dsimp only [inR]; first | decide | omega)) ?_; conv => whnf)
        | (refine new_i ?_; intro _; conv => whnf)
        | (refine br_id ?_; first
          | (refine br_t (by first | decide | omega | (with_reducible rfl) | (with_reducible exact ctx_eq _) | (simp only [cellEq, toB]; omega) | (simp only [cellEq, toB]; simp; done) | fail) ?_; conv => whnf)
          | (refine br_f (by first | decide | omega | (with_reducible exact Bool.false_ne_true) | (with_reducible refine not_not_intro ?_; (with_reducible exact ctx_eq _)) | (simp only [cellEq, toB]; omega) | (simp only [cellEq, toB]; simp; done) | fail) ?_; conv => whnf)
          | ((refine br_any (fun h => ?_) (fun h => ?_) <;> (try simp only [cellEq, toB, Bool.not_eq_true, Bool.not_eq_false] at h) <;> (try (exfalso; first | omega | contradiction | (simp at h; done) | fail); done) <;> conv => whnf)))
        | (refine ix_id ?_; first
          | (refine ix_lit (by first | decide | omega) (by (first | (simp only [Nat.zero_add, Nat.add_zero, Nat.mul_one, Nat.reduceAdd, Nat.reduceMul, Int.reduceToNat, Int.toNat_natCast, Int.toNat_zero, Int.toNat_one, Nat.zero_mul]; done) | (simp only [Nat.zero_add, Nat.add_zero, Nat.mul_one, Nat.reduceAdd, Nat.reduceMul, Int.reduceToNat, Int.toNat_natCast, Int.toNat_zero, Int.toNat_one, Nat.zero_mul]; rfl) | rfl)) (by rfl) ?_; conv => whnf)
          | (refine ix_sym (by omega) ?_; conv => whnf))
        | (refine lcall_id ?_; first | (refine lcall_ret (fun w' hloc => awake_S w') ?_; conv => whnf) | (refine lcall_mk (fun w' hloc => few w' hloc.below) ?_; (rintro _ _ mm ⟨A', c', rfl, rfl⟩ hmm; simp only [List.cons_append, List.nil_append] at hmm; subst hmm; conv => whnf)) | (refine lcall_ret (fun w' hloc => sp w' _ _ _ (row_irow hloc (by (repeat (first | (with_reducible exact am_blk) | (with_reducible exact am_row) | (with_reducible exact am_blkV) | (with_reducible exact am_oth) | (with_reducible apply am_tail)))))) ?_; conv => whnf) | (refine lcall_ret (fun w' hloc => sp0 w' _) ?_; conv => whnf) | (refine lcall_ret (fun w' hloc => spend_B l o _ _ [ys.getD j 0] 1 1 w' (irow_tag hloc (by rfl) (by rfl)) (by omega) hl hok) ?_; conv => whnf))
        | (refine lload_id ?_; first
          | ((refine load_rowN (by with_reducible assumption) (by (repeat (first | (with_reducible exact am_blk) | (with_reducible exact am_row) | (with_reducible exact am_blkV) | (with_reducible exact am_oth) | (with_reducible apply am_tail)))) (by omega) ?_; conv => whnf))
          | (refine load_old _ (by with_reducible assumption) (by simp; done) ?_; conv => whnf))
        | (refine lixs_id ?_; (refine ixs_row hA (by omega) ?_; intro _ _; conv => whnf))
        | (refine ex_id ?_; refine ex_z (by (first | (simp only [Int.reduceAdd, Int.reduceSub, Int.reduceMul, Int.reduceNeg, Int.reduceMod, Int.reduceDiv, Int.reduceTMod, Int.reduceTDiv, Int.zero_add, Int.add_zero]; done) | (simp only [Int.reduceAdd, Int.reduceSub, Int.reduceMul, Int.reduceNeg, Int.reduceMod, Int.reduceDiv, Int.reduceTMod, Int.reduceTDiv, Int.zero_add, Int.add_zero]; rfl) | rfl)) ?_; conv => whnf)
        | (refine sh_id ?_; refine sh_z (by omega) (by (first | (simp only [Int.reduceAdd, Int.reduceSub, Int.reduceMul, Int.reduceNeg, Int.reduceMod, Int.reduceDiv, Int.reduceTMod, Int.reduceTDiv, Int.zero_add, Int.add_zero]; done) | (simp only [Int.reduceAdd, Int.reduceSub, Int.reduceMul, Int.reduceNeg, Int.reduceMod, Int.reduceDiv, Int.reduceTMod, Int.reduceTDiv, Int.zero_add, Int.add_zero]; rfl) | rfl)) ?_; conv => whnf)
        | (refine quo_id ?_; first
          | (refine quo_in (by omega) (by (first | (simp only [Int.reduceAdd, Int.reduceSub, Int.reduceMul, Int.reduceNeg, Int.reduceMod, Int.reduceDiv, Int.reduceTMod, Int.reduceTDiv, Int.zero_add, Int.add_zero]; done) | (simp only [Int.reduceAdd, Int.reduceSub, Int.reduceMul, Int.reduceNeg, Int.reduceMod, Int.reduceDiv, Int.reduceTMod, Int.reduceTDiv, Int.zero_add, Int.add_zero]; rfl) | rfl)) (by (dsimp only [inR]; first | decide | omega)) ?_; conv => whnf)
          | (refine quo_t (by omega) (by (dsimp only [inR]; first | decide | omega)) ?_; conv => whnf))
        | (refine rem_id ?_; first
          | (refine rem_in (by omega) (by (first | (simp only [Int.reduceAdd, Int.reduceSub, Int.reduceMul, Int.reduceNeg, Int.reduceMod, Int.reduceDiv, Int.reduceTMod, Int.reduceTDiv, Int.zero_add, Int.add_zero]; done) | (simp only [Int.reduceAdd, Int.reduceSub, Int.reduceMul, Int.reduceNeg, Int.reduceMod, Int.reduceDiv, Int.reduceTMod, Int.reduceTDiv, Int.zero_add, Int.add_zero]; rfl) | rfl)) ?_; conv => whnf)
          | (refine rem_t (by omega) ?_; conv => whnf))
        | (refine app_id ?_; refine app_i (by (first | (simp only [Nat.zero_add, Nat.add_zero, Nat.mul_one, Nat.reduceAdd, Nat.reduceMul, Int.reduceToNat, Int.toNat_natCast, Int.toNat_zero, Int.toNat_one, Nat.zero_mul]; done) | (simp only [Nat.zero_add, Nat.add_zero, Nat.mul_one, Nat.reduceAdd, Nat.reduceMul, Int.reduceToNat, Int.toNat_natCast, Int.toNat_zero, Int.toNat_one, Nat.zero_mul]; rfl) | rfl)) (by (first | (simp only [List.nil_append, List.cons_append, List.append_nil]; done) | (simp only [List.nil_append, List.cons_append, List.append_nil]; rfl) | rfl)) (by omega) (by omega) ?_; intro _ _; conv => whnf)
        | (refine sl_id ?_; fail)
        | (refine eff_id ?_; fail)
        | (refine val_id ?_; fail)
        | (refine x_rnd ?_)
        | (refine x_rnd' ?_)
        | (refine xdrw_id ?_; fail))
      (refine fin_ret ?_)
      first | rfl | exact congrArg Value.bool (@decide_eq_true _ (_) (ctx_eq _))
    | false =>
      have hs : spend l c ys = none := by
        have : (spend l c ys).isSome = false := hk0.symm
        simpa using this
      obtain rfl : s0 = c := by rw [hs0, (spent_no hs).1]
      repeat' (first
        | (fail)
        | (refine run_c tab_ok ?_; conv => whnf)
        | (refine side_id ?_; refine side_i (by first | rfl | exact ⟨rfl, rfl, rfl, rfl⟩ | trivial | (simp [allOne, partsOne, Value.cells, Value.oneCell']; done) | fail) ?_; conv => whnf)
        | (refine ar_id ?_; refine ar_in (by (first | (simp only [Int.reduceAdd, Int.reduceSub, Int.reduceMul, Int.reduceNeg, Int.reduceMod, Int.reduceDiv, Int.reduceTMod, Int.reduceTDiv, Int.zero_add, Int.add_zero]; done) | (simp only [Int.reduceAdd, Int.reduceSub, Int.reduceMul, Int.reduceNeg, Int.reduceMod, Int.reduceDiv, Int.reduceTMod, Int.reduceTDiv, Int.zero_add, Int.add_zero]; rfl) | rfl)) (by (dsimp only [inR]; first | decide | omega)) ?_; conv => whnf)
        | (refine new_i ?_; intro _; conv => whnf)
        | (refine br_id ?_; first
          | (refine br_t (by first | decide | omega | (with_reducible rfl) | (with_reducible exact ctx_eq _) | (simp only [cellEq, toB]; omega) | (simp only [cellEq, toB]; simp; done) | fail) ?_; conv => whnf)
          | (refine br_f (by first | decide | omega | (with_reducible exact Bool.false_ne_true) | (with_reducible refine not_not_intro ?_; (with_reducible exact ctx_eq _)) | (simp only [cellEq, toB]; omega) | (simp only [cellEq, toB]; simp; done) | fail) ?_; conv => whnf)
          | ((refine br_any (fun h => ?_) (fun h => ?_) <;> (try simp only [cellEq, toB, Bool.not_eq_true, Bool.not_eq_false] at h) <;> (try (exfalso; first | omega | contradiction | (simp at h; done) | fail); done) <;> conv => whnf)))
        | (refine ix_id ?_; first
          | (refine ix_lit (by first | decide | omega) (by (first | (simp only [Nat.zero_add, Nat.add_zero, Nat.mul_one, Nat.reduceAdd, Nat.reduceMul, Int.reduceToNat, Int.toNat_natCast, Int.toNat_zero, Int.toNat_one, Nat.zero_mul]; done) | (simp only [Nat.zero_add, Nat.add_zero, Nat.mul_one, Nat.reduceAdd, Nat.reduceMul, Int.reduceToNat, Int.toNat_natCast, Int.toNat_zero, Int.toNat_one, Nat.zero_mul]; rfl) | rfl)) (by rfl) ?_; conv => whnf)
          | (refine ix_sym (by omega) ?_; conv => whnf))
        | (refine lcall_id ?_; first | (refine lcall_ret (fun w' hloc => awake_S w') ?_; conv => whnf) | (refine lcall_mk (fun w' hloc => few w' hloc.below) ?_; (rintro _ _ mm ⟨A', c', rfl, rfl⟩ hmm; simp only [List.cons_append, List.nil_append] at hmm; subst hmm; conv => whnf)) | (refine lcall_ret (fun w' hloc => sp w' _ _ _ (row_irow hloc (by (repeat (first | (with_reducible exact am_blk) | (with_reducible exact am_row) | (with_reducible exact am_blkV) | (with_reducible exact am_oth) | (with_reducible apply am_tail)))))) ?_; conv => whnf) | (refine lcall_ret (fun w' hloc => sp0 w' _) ?_; conv => whnf) | (refine lcall_ret (fun w' hloc => spend_B l o _ _ [ys.getD j 0] 1 1 w' (irow_tag hloc (by rfl) (by rfl)) (by omega) hl hok) ?_; conv => whnf))
        | (refine lload_id ?_; first
          | ((refine load_rowN (by with_reducible assumption) (by (repeat (first | (with_reducible exact am_blk) | (with_reducible exact am_row) | (with_reducible exact am_blkV) | (with_reducible exact am_oth) | (with_reducible apply am_tail)))) (by omega) ?_; conv => whnf))
          | (refine load_old _ (by with_reducible assumption) (by simp; done) ?_; conv => whnf))
        | (refine lixs_id ?_; (refine ixs_row hA (by omega) ?_; intro _ _; conv => whnf))
        | (refine ex_id ?_; refine ex_z (by (first | (simp only [Int.reduceAdd, Int.reduceSub, Int.reduceMul, Int.reduceNeg, Int.reduceMod, Int.reduceDiv, Int.reduceTMod, Int.reduceTDiv, Int.zero_add, Int.add_zero]; done) | (simp only [Int.reduceAdd, Int.reduceSub, Int.reduceMul, Int.reduceNeg, Int.reduceMod, Int.reduceDiv, Int.reduceTMod, Int.reduceTDiv, Int.zero_add, Int.add_zero]; rfl) | rfl)) ?_; conv => whnf)
        | (refine sh_id ?_; refine sh_z (by omega) (by (first | (simp only [Int.reduceAdd, Int.reduceSub, Int.reduceMul, Int.reduceNeg, Int.reduceMod, Int.reduceDiv, Int.reduceTMod, Int.reduceTDiv, Int.zero_add, Int.add_zero]; done) | (simp only [Int.reduceAdd, Int.reduceSub, Int.reduceMul, Int.reduceNeg, Int.reduceMod, Int.reduceDiv, Int.reduceTMod, Int.reduceTDiv, Int.zero_add, Int.add_zero]; rfl) | rfl)) ?_; conv => whnf)
        | (refine quo_id ?_; first
          | (refine quo_in (by omega) (by (first | (simp only [Int.reduceAdd, Int.reduceSub, Int.reduceMul, Int.reduceNeg, Int.reduceMod, Int.reduceDiv, Int.reduceTMod, Int.reduceTDiv, Int.zero_add, Int.add_zero]; done) | (simp only [Int.reduceAdd, Int.reduceSub, Int.reduceMul, Int.reduceNeg, Int.reduceMod, Int.reduceDiv, Int.reduceTMod, Int.reduceTDiv, Int.zero_add, Int.add_zero]; rfl) | rfl)) (by (dsimp only [inR]; first | decide | omega)) ?_; conv => whnf)
          | (refine quo_t (by omega) (by (dsimp only [inR]; first | decide | omega)) ?_; conv => whnf))
        | (refine rem_id ?_; first
          | (refine rem_in (by omega) (by (first | (simp only [Int.reduceAdd, Int.reduceSub, Int.reduceMul, Int.reduceNeg, Int.reduceMod, Int.reduceDiv, Int.reduceTMod, Int.reduceTDiv, Int.zero_add, Int.add_zero]; done) | (simp only [Int.reduceAdd, Int.reduceSub, Int.reduceMul, Int.reduceNeg, Int.reduceMod, Int.reduceDiv, Int.reduceTMod, Int.reduceTDiv, Int.zero_add, Int.add_zero]; rfl) | rfl)) ?_; conv => whnf)
          | (refine rem_t (by omega) ?_; conv => whnf))
        | (refine app_id ?_; refine app_i (by (first | (simp only [Nat.zero_add, Nat.add_zero, Nat.mul_one, Nat.reduceAdd, Nat.reduceMul, Int.reduceToNat, Int.toNat_natCast, Int.toNat_zero, Int.toNat_one, Nat.zero_mul]; done) | (simp only [Nat.zero_add, Nat.add_zero, Nat.mul_one, Nat.reduceAdd, Nat.reduceMul, Int.reduceToNat, Int.toNat_natCast, Int.toNat_zero, Int.toNat_one, Nat.zero_mul]; rfl) | rfl)) (by (first | (simp only [List.nil_append, List.cons_append, List.append_nil]; done) | (simp only [List.nil_append, List.cons_append, List.append_nil]; rfl) | rfl)) (by omega) (by omega) ?_; intro _ _; conv => whnf)
        | (refine sl_id ?_; fail)
        | (refine eff_id ?_; fail)
        | (refine val_id ?_; fail)
        | (refine x_rnd ?_)
        | (refine x_rnd' ?_)
        | (refine xdrw_id ?_; fail))
      (refine fin_ret ?_)
      first | rfl | exact congrArg Value.bool (@decide_eq_true _ (_) (ctx_eq _))
theorem retryOnce_walk (ls cs : List Value) (A : Option Addr) (n cp : Nat) (zs : List Int) (w : World)
    (h : skB [.i .u8, .i .u8, .i .u8, .i .u8, .i .u8, .i .u8] ls = true) (hw : wfC ls)
    (h' : skB [.i .u16, .i .u16, .i .u8, .i .u8, .i .u8, .i .u8, .i .u8, .i .u8, .i .i8, .i .i8, .i .i8, .i .i8, .i .i8, .i .i8, .i .u8, .i .u16, .b, .i .u8] cs = true) (hw' : wfC cs)
    (hr : IRow .i64 w A n zs) (hle : n ≤ cp) (hmx : cp ≤ maxLen) (hz : ∀ z ∈ zs, inR .i64 z) (hnl : A = none → n = 0 ∧ cp = 0) :
    Calls Try.prog 3 #[.agg ls.toArray, .agg cs.toArray, .slice A n cp] w fun e w' => e = .returned (.bool true) ∧ Below w.heap.size w w' := by
  obtain ⟨l, rfl, hl⟩ := six_of h hw
  obtain ⟨c, rfl, hc⟩ := ctx_of h' hw'
  exact (retryOnce_ret l c 0 A n cp zs w hl hc.2.2.1 hr (by unfold maxLen at hmx; omega)).below
end Go.Proofs.Ytihboegopigkmaa
