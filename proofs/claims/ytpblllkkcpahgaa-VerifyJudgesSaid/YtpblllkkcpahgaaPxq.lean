/- Layers 5, 9: the contracts of the references that write. -/
import Derived.Test.YtpblllkkcpahgaaPkq
namespace Go.Proofs.Ytpblllkkcpahgaa
set_option linter.unusedSimpArgs false
set_option linter.unusedVariables false
set_option linter.unnecessarySimpa false
set_option maxRecDepth 100000
open Go.RowKit

theorem val2 {zs : List Int} {i : Nat} (h : i + 2 ≤ zs.length) : val ((zs.take (i + 2)).drop i) = zs.getD i 0 * 256 + zs.getD (i + 1) 0 := by
  have e : (zs.take (i + 2)).drop i = [zs.getD i 0, zs.getD (i + 1) 0] := by
    apply getD_eq
    · simp; omega
    · intro j hj
      have hj : j < 2 := by simp at hj; omega
      rcases (show j = 0 ∨ j = 1 by omega) with rfl | rfl <;> simp [List.getD, List.getElem?_take]
  rw [e]
  simp [val]
  omega
theorem val4 {zs : List Int} {i : Nat} (h : i + 4 ≤ zs.length) : val ((zs.take (i + 4)).drop i) = zs.getD i 0 * 16777216 + zs.getD (i + 1) 0 * 65536 + zs.getD (i + 2) 0 * 256 + zs.getD (i + 3) 0 := by
  have e : (zs.take (i + 4)).drop i = [zs.getD i 0, zs.getD (i + 1) 0, zs.getD (i + 2) 0, zs.getD (i + 3) 0] := by
    apply getD_eq
    · simp; omega
    · intro j hj
      have hj : j < 4 := by simp at hj; omega
      rcases (show j = 0 ∨ j = 1 ∨ j = 2 ∨ j = 3 by omega) with rfl | rfl | rfl | rfl <;> simp [List.getD, List.getElem?_take]
  rw [e]
  simp [val]
  omega
theorem value_E (h : Nat) (A : Option Addr) (n cp : Nat) (zs : List Int) (x : Int) (w : World) (hx : val zs = x) (hr : IRow .u8 w A n zs) (hn : n ≤ 8) (hu : AllU8 zs) :
    RetS Try.prog 33 [.sl h A n cp] w (.int .u64 x) := by subst hx; exact value_S h A n cp zs w hr hn hu
theorem num2_E (tag : Nat) (x y : Int) (w : World) (e : x = y) (hx : 0 ≤ y ∧ y < 65536) : RetX Try.prog 21 [.int .u64 x, i64 2] w [] (BRow tag (be2 y)) := by subst e; exact num2_X tag x w hx
theorem rAppend_X (tag : Nat) (h : Nat) (A : Option Addr) (n cp : Nat) (zs : List Int) (w : World) (hr : IRow .u8 w A n zs) (hn0 : A = none → cp = 0) (hn : n ≤ 1000000) (hu : AllU8 zs) :
    RetX Try.prog 36 [.sl h A n cp] w [] (BRow tag (summed zs)) := by
  obtain rfl : zs.length = n := hr.1
  have hcl := crc_lt hu
  refine retX_x tab_ok (mem0 := []) Try.func36 rfl Try.ntmps36 (by rfl) (.init w) ?_; simp only [argX, Nat.reduceAdd, Nat.zero_add]; conv => whnf
  repeat' (first | (refine run_c tab_ok ?_; conv => whnf) | (refine side_id ?_; refine side_i (by first | rfl | exact ⟨rfl, rfl, rfl, rfl⟩ | trivial | (simp [allOne, partsOne, Value.cells, Value.oneCell']; done) | fail) ?_; conv => whnf) | (refine ar_id ?_; first | (refine ar_in (by (first | (simp only [Int.reduceAdd, Int.reduceSub, Int.reduceMul, Int.reduceNeg, Int.reduceMod, Int.reduceDiv, Int.reduceTMod, Int.reduceTDiv, Int.zero_add, Int.add_zero] <;> rfl) | rfl)) (by (dsimp only [inR]; first | decide | omega)) ?_; conv => whnf)) | (refine new_i ?_; intro _; conv => whnf) | (refine br_id ?_; first | (refine br_t (by first | decide | omega | (with_reducible rfl) | fail | (simp only [cellEq, toB]; omega) | (simp only [cellEq, toB]; simp; done) | fail) ?_; conv => whnf) | (refine br_f (by first | decide | omega | (with_reducible exact Bool.false_ne_true) | (with_reducible refine not_not_intro ?_; fail) | (simp only [cellEq, toB]; omega) | (simp only [cellEq, toB]; simp; done) | fail) ?_; conv => whnf) | ((refine br_any (fun h => ?_) (fun h => ?_) <;> (try simp only [cellEq, toB, Bool.not_eq_true, Bool.not_eq_false] at h) <;> (try (exfalso; first | omega | contradiction | (simp at h; done) | fail); done) <;> conv => whnf))) | (refine ix_id ?_; first | (refine ix_lit (by first | decide | omega) (by (first | (simp only [Nat.zero_add, Nat.add_zero, Nat.mul_one, Nat.reduceAdd, Nat.reduceMul, Int.reduceToNat, Int.toNat_natCast, Int.toNat_zero, Int.toNat_one, Nat.zero_mul] <;> rfl) | rfl)) (by rfl) ?_; conv => whnf) | (refine ix_sym (by omega) ?_; conv => whnf)) | (refine lcall_id ?_; first | (refine lcall_ret (fun w' hloc => refSum_S _ _ _ _ _ w' (irow_loc hr hloc) (by omega) hu) ?_; conv => whnf) | (refine lcall_mk (fun w' hloc => num2_E 40 _ (crc zs) w' rfl (by omega)) ?_; (rintro _ _ mm ⟨A1, c1, rfl, rfl, hf1⟩ hmm; simp only [List.cons_append, List.nil_append] at hmm; subst hmm; conv => whnf)) | (refine lcall_mk (fun w' hloc => join_T 41 _ _ 2 [(A, cp, zs), (A1, c1, be2 (crc zs))] w' (summed zs) (bls_tag hloc (by rfl) (by rfl) (all_cons ⟨irow_loc hr hloc, hn0⟩ (all_cons ⟨row_irow hloc (by (first | ((repeat (first | (with_reducible exact am_blk) | (with_reducible exact am_row) | (with_reducible exact am_blkV) | (with_reducible exact am_oth) | (with_reducible apply am_tail))); done) | ((repeat (first | exact am_row | exact am_blk | exact am_blkV | exact am_oth | apply am_tail)); done) | fail)), hf1.2.1⟩ all_nil))) rfl (by simp [BLs.all, summed]) (by simp [summed, be2]; omega) (by decide)) ?_; (rintro _ _ mm ⟨A2, c2, rfl, rfl, hf2⟩ hmm; simp only [List.cons_append, List.nil_append] at hmm; subst hmm; conv => whnf))) | (refine lload_id ?_; first | (refine load_old _ (by with_reducible assumption) (by simp; done) ?_; conv => whnf)) | (refine ex_id ?_; first | (refine ex_z (by (first | (simp only [Int.reduceAdd, Int.reduceSub, Int.reduceMul, Int.reduceNeg, Int.reduceMod, Int.reduceDiv, Int.reduceTMod, Int.reduceTDiv, Int.zero_add, Int.add_zero] <;> rfl) | rfl)) ?_; conv => whnf)) | (refine sh_id ?_; first | (refine sh_z (by omega) (by (first | (simp only [Int.reduceAdd, Int.reduceSub, Int.reduceMul, Int.reduceNeg, Int.reduceMod, Int.reduceDiv, Int.reduceTMod, Int.reduceTDiv, Int.zero_add, Int.add_zero] <;> rfl) | rfl)) ?_; conv => whnf)) | (refine quo_id ?_; first | (refine quo_in (by omega) (by (first | (simp only [Int.reduceAdd, Int.reduceSub, Int.reduceMul, Int.reduceNeg, Int.reduceMod, Int.reduceDiv, Int.reduceTMod, Int.reduceTDiv, Int.zero_add, Int.add_zero] <;> rfl) | rfl)) (by (dsimp only [inR]; first | decide | omega)) ?_; conv => whnf) | (refine quo_t (by omega) (by (dsimp only [inR]; first | decide | omega)) ?_; conv => whnf)) | (refine rem_id ?_; first | (refine rem_in (by omega) (by (first | (simp only [Int.reduceAdd, Int.reduceSub, Int.reduceMul, Int.reduceNeg, Int.reduceMod, Int.reduceDiv, Int.reduceTMod, Int.reduceTDiv, Int.zero_add, Int.add_zero] <;> rfl) | rfl)) ?_; conv => whnf) | (refine rem_t (by omega) ?_; conv => whnf)) | (refine app_id ?_; refine app_i (by (first | (simp only [Nat.zero_add, Nat.add_zero, Nat.mul_one, Nat.reduceAdd, Nat.reduceMul, Int.reduceToNat, Int.toNat_natCast, Int.toNat_zero, Int.toNat_one, Nat.zero_mul] <;> rfl) | rfl)) (by (first | (simp only [List.nil_append, List.cons_append, List.append_nil] <;> rfl) | rfl)) (by first | omega | (change _ * 1 ≤ _; omega) | (change _ * 8 ≤ _; omega) | (change _ * 2 ≤ _; omega) | (change _ * 4 ≤ _; omega) | (change _ * 16 ≤ _; omega) | (change _ * 24 ≤ _; omega) | (change _ * 32 ≤ _; omega) | (change _ * 40 ≤ _; omega)) (by first | omega | decide) ?_; intro _ _ _; conv => whnf) | (refine mk_id ?_; first | (refine mk_lit (by rfl) (by rfl) (by decide) (by rfl) ?_; conv => whnf) | (refine mk_sym _ (by first | rfl | omega) (by first | rfl | omega) (by omega) (by omega) ?_; conv => whnf)) | (refine x_rnd ?_) | (refine x_rnd' ?_))
  exact fin_row tag (by (repeat (first | exact trivial | ((conv => whnf); refine And.intro (by rfl) ?_)))) rfl rfl (by (first | ((repeat (first | (with_reducible exact am_blk) | (with_reducible exact am_row) | (with_reducible exact am_blkV) | (with_reducible exact am_oth) | (with_reducible apply am_tail))); done) | ((repeat (first | exact am_row | exact am_blk | exact am_blkV | exact am_oth | apply am_tail)); done) | fail))
theorem hdr_rng (cmd : Bool) {x : Int} (h : 0 ≤ x ∧ x < 2048) : 0 ≤ hdr cmd x ∧ hdr cmd x < 65536 := by cases cmd <;> (simp only [hdr]; omega)
end Go.Proofs.Ytpblllkkcpahgaa
